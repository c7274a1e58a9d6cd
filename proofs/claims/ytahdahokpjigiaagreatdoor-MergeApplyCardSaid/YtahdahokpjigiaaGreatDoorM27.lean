/- Decimal digits: plain facts Walking: integers are written Terms that are well sorted: plain facts Walking: small values and variables Walking: terms and formulas are generated Walking: terms and formu -/
import Derived.Test.YtahdahokpjigiaaGreatDoorM26
open Nat renaming reduceBEq → z0,reduceAdd → z1,reduceLeDiff → z2,reduceSub → z3
set_option linter.all false
namespace Go.Proofs.YtahdahokpjigiaaGreatDoor.Am
open Go
set_option maxRecDepth 100000
def dec (n:Nat):List Nat:=if n < 10 then [48 + n] else dec (n / 10)++[48 + n % 10]
termination_by n
def z3d (z:Int):List Nat:=if z < 0 then 45::dec z.natAbs else dec z.natAbs
theorem z9q {n:Nat} (h:n < 10):dec n=[48 + n]:=by rw[dec,if_pos h]
theorem k0p {n:Nat} (h:10≤n):dec n=dec (n / 10)++[48 + n % 10]:=by rw[dec,if_neg (by omega)]
theorem z8v (n:Nat):dec n≠[]:=by
 rw[dec]
 split
 ·simp
 ·simp
theorem z1o (n:Nat):∀ c∈dec n,48≤c∧c≤57:=by
 induction n using Nat.strongRecOn with
 | ind n ih=>
   rw[dec]
   split
   ·intro c hc;simp at hc;omega
   ·intro c hc
    rw[List.mem_append] at hc
    rcases hc with hc | hc
    ·exact ih (n / 10) (by omega) c hc
    ·simp at hc;omega
def z1p (s:List Nat):Nat:=s.foldl (fun a c=>10 * a + (c - 48)) 0
theorem q0i {s:List Nat} {c:Nat}:z1p (s++[c])=10 * z1p s + (c - 48):=by simp[z1p]
theorem z2g (n:Nat):z1p (dec n)=n:=by
 induction n using Nat.strongRecOn with
 | ind n ih=>
   rw[dec]
   split
   ·simp[z1p]
   ·rw[q0i,ih (n / 10) (by omega)];omega
theorem j0b {a b:Nat} (h:dec a=dec b):a=b:=by rw[←z2g a,←z2g b,h]
theorem j3c {n:Nat} (h:0 < n):∃ c s,dec n=c::s∧49≤c∧c≤57:=by
 induction n using Nat.strongRecOn with
 | ind n ih=>
   rw[dec]
   split
   ·exact⟨48 + n,[],rfl,by omega,by omega⟩
   ·obtain⟨c,s,h1,h2⟩:=ih (n / 10) (by omega) (by omega)
    exact⟨c,s++[48 + n % 10],by rw[h1];rfl,h2⟩
theorem z8w {n k:Nat} (hk:0 < k) (h:n < 10 ^ k):(dec n).length≤k:=by
 induction k generalizing n with
 | zero=>omega
 | succ k ih=>
   rw[dec]
   split
   ·simp
   ·rw[List.length_append,List.length_singleton]
    have h1:n / 10 < 10 ^ k:=by rw[Nat.pow_succ] at h;omega
    have hk0:0 < k:=by
     rcases Nat.eq_zero_or_pos k with rfl | h0
     ·simp at h1;omega
     ·exact h0
    have:=ih hk0 h1
    omega
theorem q4v:dec 0=[48]:=z9q (by omega)
theorem q3s {n:Nat}:dec n=[48]↔n=0:=⟨fun h=>j0b (h.trans q4v.symm),fun h=>h ▸ q4v⟩
theorem x2l {n:Nat}:dec n=[49]↔n=1:=⟨fun h=>j0b (h.trans (z9q (by omega):dec 1=_).symm),fun h=>h ▸ z9q (by omega)⟩
def w6g (s:List Nat):Prop:=s≠[]∧(∀ c∈s,48≤c∧c≤57)∧(s.length > 1→s.head? ≠some 48)
theorem z4t {c:Nat} {s:List Nat}:z1p (c::s)=(c - 48) * 10 ^ s.length + z1p s:=by
 have key:∀ (s:List Nat) (a:Nat),s.foldl (fun a c=>10 * a + (c - 48)) a=a * 10 ^ s.length + s.foldl (fun a c=>10 * a + (c - 48)) 0:=by
  intro s
  induction s with
  | nil=>intro a;simp
  | cons d s ih=>
    intro a
    simp only[List.foldl_cons,List.length_cons]
    rw[ih,ih (10 * 0 + (d - 48)),Nat.pow_succ,Nat.add_mul]
    simp only[Nat.mul_zero,Nat.zero_add]
    rw[show 10 * a * 10 ^ s.length=a * (10 ^ s.length * 10) by rw[Nat.mul_comm 10 a,Nat.mul_assoc,Nat.mul_comm 10]]
    omega
 simp only[z1p,List.foldl_cons]
 rw[key]
 simp
theorem k0q {s:List Nat} (h:w6g s):dec (z1p s)=s:=by
 obtain⟨h1,h2,h3⟩:=h
 induction hl:s.length generalizing s with
 | zero=>exact absurd (List.length_eq_zero_iff.1 hl) h1
 | succ n ih=>
   obtain⟨t,c,rfl⟩:∃ t c,s=t++[c]:=⟨s.dropLast,s.getLast h1,(List.dropLast_concat_getLast h1).symm⟩
   have hc:=h2 c (by simp)
   rw[q0i]
   by_cases ht:t=[]
   ·subst ht
    simp[z1p]
    rw[z9q (by omega)]
    congr 1
    omega
   ·have hcan:dec (z1p t)=t:=ih ht (fun d hd=>h2 d (List.mem_append_left _ hd)) (fun hlt=>by
     have:=h3 (by simp at hlt⊢;omega)
     obtain⟨d,t',rfl⟩:=List.exists_cons_of_ne_nil ht
     simpa using this) (by simpa using hl)
    have hpos:0 < z1p t:=by
     rcases Nat.eq_zero_or_pos (z1p t) with h0 | h0
     ·rw[h0,q4v] at hcan
      have:=h3 (by rw[←hcan];simp)
      rw[←hcan] at this
      simp at this
     ·exact h0
    rw[k0p (by omega),show (10 * z1p t + (c - 48)) / 10=z1p t by omega,hcan]
    congr 2
    omega
theorem q0j {n:Int} (hn: -2 ^ 62≤n) (hn2:n≤2 ^ 62):Pure Gam 59 [.int .i64 n] (.str (z3d n)):=by
 refine Pure.of rfl u5b rfl rfl rfl rfl rfl fun D B clk T hB hT=> ?_
 simp only[go_sem,u0u]
 refine z0y (fun m s=>∃ (v:Int) (t:List Nat) (a:AObj),m=v.natAbs + (if t=[] then 1 else 0)∧ -2 ^ 62≤v∧v≤2 ^ 62∧t.length≤100∧s.ts 0= .int .i64 n∧s.ts 4= .int .i64 v∧s.ts 3= .str t∧s.h=D++[a]∧
  (if t=[] then v=n else if v=0 then t=dec n.natAbs else dec n.natAbs=dec v.natAbs++t)) (n.natAbs + 1) ?_ ?_
 ·exact⟨n,[],_,by simp,hn,hn2,by simp,rfl,rfl,rfl,rfl,rfl⟩
 rintro m ⟨ts,h,clk⟩ P ⟨v,t,a,rfl,hv1,hv2,hl,h0,h4,h3,rfl,hd⟩ hn he hr
 dsimp only at h0 h4 h3
 have hlen:t.length≤20∨t.length≤20:=by
  by_cases ht:t=[]
  ·left;subst ht;simp
  ·rw[if_neg ht] at hd
   have h20:(dec n.natAbs).length≤20:=z8w (by omega) (by omega)
   by_cases hv:v=0
   ·rw[if_pos hv] at hd;left;rw[hd];exact h20
   ·rw[if_neg hv] at hd
    have:=congrArg List.length hd
    simp only[List.length_append] at this
    left;omega
 have hl20:t.length≤20:=hlen.elim id id
 by_cases hc:v=0∧t≠[]
 ·obtain⟨rfl,ht⟩:=hc
  have e1:decide (t=[])=false:=by simp[ht]
  simp only[go_sem,h0,h4,h3,j6e,decide_true,e1]
  refine he _ _ ?_
  rw[if_neg ht,if_pos rfl] at hd
  have ht2:t.length < 2 ^ 59:=by omega
  simp only[go_sem,h0,h3]
  refine z8c (fun hb=> ?_) (fun hb=> ?_)
  ·have hneg:n < 0:=by simpa using hb
   simp only[go_sem,h0,h3,q3d (a:=[45]) (b:=t) (by simp;omega)]
   rw[z2x rfl rfl]
   have:=hT (D++[a])
   rw[z3d,if_pos hneg,←hd] at this
   exact this
  ·have hneg:¬ n < 0:=by simpa using hb
   simp only[go_sem,h0,h3]
   rw[z2x rfl rfl]
   have:=hT (D++[a])
   rw[z3d,if_neg hneg,←hd] at this
   exact this
 ·
  have hq:IntKind.i64.wrap (v.tdiv 10)=v.tdiv 10:=IntWalk.i64_quo' _ _ (by omega)
  have hr1:(v.tmod 10).natAbs=v.natAbs % 10:=Int.natAbs_tmod v 10
  have hr2:(v.tdiv 10).natAbs=v.natAbs / 10:=Int.natAbs_tdiv v 10
  have fin:∀ (ts':Tmps) (clk':Nat),ts' 0= .int .i64 n→ts' 4= .int .i64 (v.tdiv 10)→ts' 3= .str ((48 + v.natAbs % 10)::t)→P .norm ⟨ts',D++[a],clk'⟩:=by
   intro ts' clk' g0 g4 g3
   refine hn (((v.tdiv 10).natAbs) + 0) _ ?_ ⟨v.tdiv 10,(48 + v.natAbs % 10)::t,_,by simp,by omega,by omega,by simp;omega,g0,g4,g3,rfl, ?_⟩
   ·by_cases ht:t=[]
    ·rw[if_pos ht];omega
    ·have:v≠0:=fun h=>hc ⟨h,ht⟩
     rw[if_neg ht];omega
   ·rw[if_neg (by simp)]
    by_cases ht:t=[]
    ·subst ht
     rw[if_pos rfl] at hd
     subst hd
     by_cases h10:v.natAbs < 10
     ·rw[if_pos (by omega),z9q h10,Nat.mod_eq_of_lt h10]
     ·rw[if_neg (by omega),k0p (by omega),hr2]
    ·have hv0:v≠0:=fun h=>hc ⟨h,ht⟩
     rw[if_neg ht,if_neg hv0] at hd
     by_cases h10:v.natAbs < 10
     ·rw[if_pos (by omega),hd,z9q h10,Nat.mod_eq_of_lt h10];rfl
     ·rw[if_neg (by omega),hd,k0p (n:=v.natAbs) (by omega),hr2];simp
  have e2:(48 + (v.natAbs:Int) % 10).toNat=48 + v.natAbs % 10:=by omega
  have e3:(0≤48 + (v.natAbs:Int) % 10∧48 + (v.natAbs:Int) % 10 < 256)=True:=by simp;omega
  have e4:IntKind.u8.wrap (IntKind.i64.wrap (48 + (v.natAbs:Int) % 10))=48 + (v.natAbs:Int) % 10:=by rw[z0d (by omega) (by omega),IntWalk.u8_in _ (by omega)]
  have e5:decide ((v.natAbs:Int) % 10 < 0)=false:=by simp;omega
  have hs:=q3d (h:=D++[a]) (t:= .one .str) (a:=[48 + v.natAbs % 10]) (b:=t) (by simp;omega)
  by_cases hv:v=0
  ·have ht:t=[]:=Classical.byContradiction fun h=>hc ⟨hv,h⟩
   have e6:v.tmod 10=(v.natAbs:Int) % 10:=by subst hv;rfl
   have e7:decide (v=0)=true:=by simp[hv]
   have e8:decide (t=[])=true:=by simp[ht]
   simp only[go_sem,h0,h4,h3,j6e,q6y (b:=10) (by decide),e2,e3,e4,e5,e6,e7,e8,hs,z7e,x2i (b:=10) (by decide),hq]
   exact fin _ _ (by simp[z0b,h0]) (by simp[z0b]) (by simp[z0b])
  ·have e7:decide (v=0)=false:=by simp[hv]
   by_cases hneg:v.tmod 10 < 0
   ·have e6:IntKind.i64.wrap (0 - v.tmod 10)=(v.natAbs:Int) % 10:=by rw[z0d (by omega) (by omega)];omega
    have e8:decide (v.tmod 10 < 0)=true:=by simp[hneg]
    simp only[go_sem,h0,h4,h3,j6e,q6y (b:=10) (by decide),e2,e3,e4,e5,e6,e7,e8,hs,z7e,x2i (b:=10) (by decide),hq]
    exact fin _ _ (by simp[z0b,h0]) (by simp[z0b]) (by simp[z0b])
   ·have e6:v.tmod 10=(v.natAbs:Int) % 10:=by omega
    simp only[go_sem,h0,h4,h3,j6e,q6y (b:=10) (by decide),e2,e3,e4,e5,e6,e7,hs,z7e,x2i (b:=10) (by decide),hq]
    exact fin _ _ (by simp[z0b,h0]) (by simp[z0b]) (by simp[z0b])
def IntS (a:List Nat):Prop:=∃ z:Int,a=z3d z∧z.natAbs < 10 ^ 40
def RatS (a:List Nat):Prop:=IntS a∨∃ (z:Int) (d:Nat),a=z3d z++47::dec d∧z.natAbs < 10 ^ 40∧2≤d∧d≤4∧Nat.gcd z.natAbs d=1
def bare (o k:Nat):Node:=⟨o,0,[],[],k⟩
inductive NodeOk (V:List Var):Node→List Nat→Nat→Term→Prop
 | bool {o:Nat} {ks:Term} (h:o=1∨o=2):NodeOk V (bare o 0) [] 1 ks
 | int {a:List Nat} {ks:Term} (h:IntS a):NodeOk V ⟨3,2,[],a,0⟩ [] 2 ks
 | real {a:List Nat} {ks:Term} (h:RatS a):NodeOk V ⟨3,3,[],a,0⟩ [] 3 ks
 | var {v:Var} {ks:Term} (h:v∈V):NodeOk V ⟨4,v.sort,v.name,[],0⟩ [] v.sort ks
 | not {ks:Term}:NodeOk V (bare 6 1) [1] 1 ks
 | andor {o k:Nat} {ks:Term} (h:o=7∨o=8):NodeOk V (bare o k) (List.replicate k 1) 1 ks
 | imp {ks:Term}:NodeOk V (bare 9 2) [1,1] 1 ks
 | ite {s:Nat} {ks:Term} (h1:1≤s) (h2:s≤4):NodeOk V (bare 10 3) [1,s,s] s ks
 | eq {s:Nat} {ks:Term} (h1:1≤s) (h2:s≤4):NodeOk V (bare 11 2) [s,s] 1 ks
 | cmp {o s:Nat} {ks:Term} (h:o=12∨o=13) (hs:s=2∨s=3):NodeOk V (bare o 2) [s,s] 1 ks
 | add {k s:Nat} {ks:Term} (h:1≤k) (hs:s=2∨s=3):NodeOk V (bare 14 k) (List.replicate k s) s ks
 | mul {s:Nat} {n:Node} {ks:Term} (hs:s=2∨s=3) (hn:n.op=3):NodeOk V (bare 15 2) [s,s] s (n::ks)
 | div {o k:Nat} {ks:Term} (h:o=16∨o=17) (h1:1≤k) (h2:k≤5):NodeOk V ⟨o,0,[],dec k,1⟩ [2] 2 ks
 | select {ks:Term}:NodeOk V (bare 18 2) [4,2] 2 ks
 | store {ks:Term}:NodeOk V (bare 19 3) [4,2,2] 4 ks
 | const {ks:Term}:NodeOk V (bare 20 1) [2] 4 ks
inductive WF (V:List Var):List Nat→Nat→Term→Prop
 | nil {d:Nat}:WF V [] d []
 | cons {n:Node} {ss:List Nat} {ks:Term} {s d:Nat} {ss':List Nat} {rest:Term}:WF V ss d ks→NodeOk V n ss s ks→n.kids=ss.length→WF V ss' (d + 1) rest→WF V (s::ss') (d + 1) (n::(ks++rest))
theorem WF.up {V:List Var} {ss:List Nat} {d d':Nat} {t:Term} (h:WF V ss d t) (hd:d≤d'):WF V ss d' t:=by
 induction h generalizing d' with
 | nil=>exact .nil
 | cons h1 h2 h3 h4 ih1 ih2=>
   obtain⟨e,rfl⟩:∃ e,d'=e + 1:=⟨d' - 1,by omega⟩
   exact .cons (ih1 (by omega)) h2 h3 (ih2 hd)
theorem WF.append {V:List Var} {ss ss':List Nat} {d:Nat} {t t':Term} (h:WF V ss d t) (h':WF V ss' d t'):WF V (ss++ss') d (t++t'):=by
 induction h with
 | nil=>exact h'
 | cons h1 h2 h3 h4 ih1 ih2=>
   rw[List.cons_append,List.cons_append,List.append_assoc]
   exact .cons h1 h2 h3 (ih2 h')
theorem WF.one {V:List Var} {n:Node} {ss:List Nat} {s d:Nat} {ks:Term} (h:WF V ss d ks) (hn:NodeOk V n ss s ks) (hk:n.kids=ss.length):WF V [s] (d + 1) (n::ks):=by
 have:=WF.cons h hn hk .nil
 rwa [List.append_nil] at this
def GT (V:List Var) (s d m:Nat) (t:Term):Prop:=WF V [s] d t∧t.length≤m∧1≤s∧s≤4
theorem GT.up {V:List Var} {s d m d' m':Nat} {t:Term} (h:GT V s d m t) (hd:d≤d') (hm:m≤m'):GT V s d' m' t:=⟨h.1.up hd,by have:=h.2.1;omega,h.2.2⟩
theorem GT.leaf {V:List Var} {n:Node} {s:Nat} (hn:NodeOk V n [] s []) (hk:n.kids=0) (h1:1≤s) (h2:s≤4):GT V s 1 1 [n]:=⟨WF.one (d:=0) .nil hn hk,by simp,h1,h2⟩
theorem q5z {z:Int} (h:z.natAbs < 10 ^ 40):IntS (z3d z):=⟨z,rfl,h⟩
theorem x4f {k:Nat} (h:k < 10):IntS [48 + k]:=⟨k,by rw[z3d,if_neg (by omega),Int.natAbs_natCast,z9q h],by simp;omega⟩
theorem Pure.tab {f:Nat} {args:List AV} {tab:List (List AV×AV)} {v:AV} (hext:Gam.ext f=some (q0t tab)) (hobs:z4k args=[]) (hv:q0t tab (cvL args)=some v):Pure Gam f args v:=by
 intro h clk
 constructor
 ·refine⟨0, ?_⟩
  unfold z5b z0k
  simp only[hext,z1j hobs,z4n hobs,List.isEmpty_nil,if_true,hv,Option.map_some]
 ·unfold z0v
  simp only[hext,hobs,List.map_nil,List.append_nil]
def value (s:Nat) (b:Bool) (a:List Nat) (ks vs:List AV):AV:= .agg [nat s, .bool b, .str a, .sl ks .no, .sl vs .no]
def SmallV (s:Nat) (v:AV):Prop:=∃ t,q0t z2r [v]=some (.tup [z0l t, .int .i64 0])∧(∀ V,GT V s 3 5 t)∧v.obs=[]∧v.cv=v∧v.ids=[]∧v.def? =true∧v.cells.length=5∧v.cells.all AV.one=true
theorem z6a {k:Nat} (h:k < 10):z3d (k:Int)=[48 + k]:=by rw[z3d,if_neg (by omega),Int.natAbs_natCast,z9q h]
theorem j6l (b:Bool):SmallV 1 (value 1 b [] [] []):=by
 cases b
 ·exact⟨[bare 2 0],rfl,fun V=>(GT.leaf (.bool (.inr rfl)) rfl (by omega) (by omega)).up (by omega) (by omega),rfl,rfl,rfl,rfl,rfl,rfl⟩
 ·exact⟨[bare 1 0],rfl,fun V=>(GT.leaf (.bool (.inl rfl)) rfl (by omega) (by omega)).up (by omega) (by omega),rfl,rfl,rfl,rfl,rfl,rfl⟩
theorem x7j {k:Nat} (h:k < 10) (h0:0 < k):z3d (-(k:Int))=[45,48 + k]:=by
 rw[z3d,if_pos (by omega),show (-(k:Int)).natAbs=k by omega,z9q h]
theorem k0r {s:Nat} (hs:s=2∨s=3) {z:Int} (h1: -2≤z) (h2:z≤3):SmallV s (value s false (z3d z) [] []):=by
 have hi:IntS (z3d z):=q5z (by omega)
 refine⟨[⟨3,s,[],z3d z,0⟩], ?_,fun V=> ?_,rfl,rfl,rfl,rfl,rfl,rfl⟩
 ·have:z3d z=[45,50]∧z= -2∨z3d z=[45,49]∧z= -1∨z3d z=[48]∧z=0∨z3d z=[49]∧z=1∨z3d z=[50]∧z=2∨z3d z=[51]∧z=3:=by
   rcases (by omega:z= -2∨z= -1∨z=0∨z=1∨z=2∨z=3) with rfl | rfl | rfl | rfl | rfl | rfl
   ·exact .inl ⟨x7j (k:=2) (by omega) (by omega),rfl⟩
   ·exact .inr (.inl ⟨x7j (k:=1) (by omega) (by omega),rfl⟩)
   ·exact .inr (.inr (.inl ⟨z6a (k:=0) (by omega),rfl⟩))
   ·exact .inr (.inr (.inr (.inl ⟨z6a (k:=1) (by omega),rfl⟩)))
   ·exact .inr (.inr (.inr (.inr (.inl ⟨z6a (k:=2) (by omega),rfl⟩))))
   ·exact .inr (.inr (.inr (.inr (.inr ⟨z6a (k:=3) (by omega),rfl⟩))))
  rcases hs with rfl | rfl <;> rcases this with ⟨e,_⟩ | ⟨e,_⟩ | ⟨e,_⟩ | ⟨e,_⟩ | ⟨e,_⟩ | ⟨e,_⟩ <;> rw[e] <;> rfl
 ·rcases hs with rfl | rfl
  ·exact (GT.leaf (.int hi) rfl (by omega) (by omega)).up (by omega) (by omega)
  ·exact (GT.leaf (.real (.inl hi)) rfl (by omega) (by omega)).up (by omega) (by omega)
def y1w (k:Nat):Term:=[bare 20 1,⟨3,2,[],[48 + k],0⟩]
def y5w (k i j:Nat):Term:=[bare 19 3,bare 20 1,⟨3,2,[],[48 + k],0⟩,⟨3,2,[],[48 + i],0⟩,⟨3,2,[],[48 + j],0⟩]
theorem k0s {V:List Var} {k d:Nat} (h:k < 10):WF V [2] (d + 1) [⟨3,2,[],[48 + k],0⟩]:=WF.one .nil (.int (x4f h)) rfl
theorem k0t {V:List Var} {k d:Nat} (h:k < 10):WF V [4] (d + 2) (y1w k):=WF.one (k0s h) .const rfl
theorem v6h {V:List Var} {k:Nat} (h:k < 10):GT V 4 3 5 (y1w k):=⟨k0t h,by simp[y1w],by omega,by omega⟩
theorem v6i {V:List Var} {k i j:Nat} (h:k < 10) (hi:i < 10) (hj:j < 10):GT V 4 3 5 (y5w k i j):=by
 refine⟨?_,by simp[y5w],by omega,by omega⟩
 have:=((k0t (V:=V) (d:=0) h).append (k0s (d:=1) hi)).append (k0s (d:=1) hj)
 exact WF.one this .store rfl
def w6h (k i j:Nat):AV:=if j=k then value 4 false [48 + k] [] [] else value 4 false [48 + k] [.str [48 + i]] [.str [48 + j]]
theorem k0u {k i j:Nat} (hk:k < 3) (hi:i < 3) (hj:j < 3):q0t z6i [value 4 false [48 + k] [] [], .str [48 + i], .str [48 + j]]=some (.tup [w6h k i j, .int .i64 0]):=by
 have hk:k=0∨k=1∨k=2:=by omega
 have hi:i=0∨i=1∨i=2:=by omega
 have hj:j=0∨j=1∨j=2:=by omega
 rcases hk with rfl | rfl | rfl <;> rcases hi with rfl | rfl | rfl <;> rcases hj with rfl | rfl | rfl <;> rfl
theorem k0v {k i j:Nat} (hk:k < 3) (hi:i < 3) (hj:j < 3):SmallV 4 (w6h k i j):=by
 refine⟨if j=k then y1w k else y5w k i j, ?_,fun V=> ?_, ?_⟩
 ·have hk:k=0∨k=1∨k=2:=by omega
  have hi:i=0∨i=1∨i=2:=by omega
  have hj:j=0∨j=1∨j=2:=by omega
  rcases hk with rfl | rfl | rfl <;> rcases hi with rfl | rfl | rfl <;> rcases hj with rfl | rfl | rfl <;> rfl
 ·split
  ·exact v6h (by omega)
  ·exact v6i (by omega) (by omega) (by omega)
 ·unfold w6h
  split <;> exact⟨rfl,rfl,rfl,rfl,rfl,rfl⟩
theorem k6b {l:List Int} {s:Nat} (hl:q7q l) (h1:1≤s) (h2:s≤4):GenOk l 21 [nat s] fun v=>SmallV s v:=by
 refine GenOk.of rfl u4x rfl rfl rfl rfl rfl fun D B p g i clk T hB hs hD hi hT=> ?_
 obtain rfl | hs23 | rfl:s=1∨(s=2∨s=3)∨s=4:=by omega
 ·simp only[go_sem,y1t,nat,hB,Int.reduceEq,decide_true,decide_false]
  refine z0o (z3h hl (by decide) (by decide)) hB hs hD hi ?_
  rintro v D' i' ⟨r,rfl,hr1,hr2⟩ hB' hD' hi'
  simp only[go_sem,hB',Int.reduceEq,decide_true,decide_false]
  rw[z2x rfl rfl]
  exact hT _ _ i' (by rw[z0u hB' hs];exact hD') hi' (j6l _)
 ·have e1:decide ((s:Int)=1)=false:=by simp;omega
  have e2:decide ((s:Int)=4)=false:=by simp;omega
  simp only[go_sem,y1t,nat,hB,Int.reduceEq,e1,e2]
  refine z0o (z3h hl (by decide) (by decide)) hB hs hD hi ?_
  rintro v D' i' ⟨r,rfl,hr1,hr2⟩ hB' hD' hi'
  have e3:IntKind.i64.wrap (r - 2)=r - 2:=z0d (by omega) (by omega)
  simp only[go_sem,hB',e3]
  rw[z0a (q0j (by omega) (by omega))]
  simp only[go_sem,hB']
  rw[z2x rfl rfl]
  exact hT _ _ i' (by rw[z0u hB' hs];exact hD') hi' (k0r hs23 (by omega) (by omega))
 ·simp only[go_sem,y1t,nat,hB,Int.reduceEq,decide_true,decide_false]
  refine z0o (z3h hl (by decide) (by decide)) hB hs hD hi ?_
  rintro v D1 i1 ⟨r1,rfl,hr1,hr2⟩ hB1 hD1 hi1
  obtain⟨k,rfl⟩:∃ k:Nat,r1=k:=⟨r1.toNat,by omega⟩
  simp only[go_sem,hB1]
  rw[z0a (q0j (by omega) (by omega)),z6a (by omega)]
  simp only[go_sem,hB1,z1i]
  refine z0o (z3h hl (by decide) (by decide)) hB1 hs hD1 hi1 ?_
  rintro v D2 i2 ⟨r2,rfl,hr3,hr4⟩ hB2 hD2 hi2
  obtain⟨a,rfl⟩:∃ k:Nat,r2=k:=⟨r2.toNat,by omega⟩
  simp only[go_sem,hB2]
  rw[z0a (q0j (by omega) (by omega)),z6a (by omega)]
  simp only[go_sem,hB2]
  refine z0o (z3h hl (by decide) (by decide)) hB2 hs hD2 hi2 ?_
  rintro v D3 i3 ⟨r3,rfl,hr5,hr6⟩ hB3 hD3 hi3
  obtain⟨b,rfl⟩:∃ k:Nat,r3=k:=⟨r3.toNat,by omega⟩
  simp only[go_sem,hB3]
  rw[z0a (q0j (by omega) (by omega)),z6a (by omega)]
  simp only[go_sem,hB3]
  obtain⟨ks,vs,hv⟩:∃ ks vs,w6h k a b=value 4 false [48 + k] ks vs:=by
   unfold w6h
   split <;> exact⟨_,_,rfl⟩
  have hsm:=k0v (k:=k) (i:=a) (j:=b) (by omega) (by omega) (by omega)
  have htab:=k0u (k:=k) (i:=a) (j:=b) (by omega) (by omega) (by omega)
  rw[hv] at hsm htab
  have hp:Pure Gam 60 [.agg [.int .i64 4, .bool false, .str [48 + k], .sl [] .nil, .sl [] .nil], .str [48 + a], .str [48 + b]] _:=Pure.tab (tab:=z6i) rfl rfl htab
  rw[z0a hp]
  simp only[go_sem,hB3,value,nat]
  refine⟨by simp[z1f,apart,z0i,z1d,z1h,AOp.isCall,hB1];omega, ?_⟩
  obtain⟨t,q1,q2,q3,q4,q5,q6⟩:=hsm
  rw[z2x (v:= .agg [.int .i64 4, .bool false, .str [48 + k], .sl ks .no, .sl vs .no]) rfl q5]
  exact hT _ _ i3 (by rw[z0u hB3 hs];exact hD3) hi3 ⟨t,q1,q2,q3,q4,q5,q6⟩
theorem j0c {s:Nat} {v:AV} (hv:SmallV s v):∃ t,Pure Gam 244 [v] (.tup [z0l t, .int .i64 0])∧∀ V,GT V s 3 5 t:=by
 obtain⟨t,q1,q2,q3,q4,q5,q6⟩:=hv
 refine⟨t,Pure.tab (tab:=z2r) rfl (by simp[z4k,q3]) (by simp only[cvL,q4];exact q1),q2⟩
def q9i (V:List Var) (s d m:Nat) (v:AV):Prop:=∃ t,v=z0l t∧GT V s d m t
theorem z8x {l:List Var} {i:Nat} {h:List AObj} {t:Tip} {k:IntKind} (hi:i < l.length):z1m h 2 (.sl (l.map z1b) t) (.int k (i:Int))=some (.iptr [.str l[i].name,nat l[i].sort] 0,h):=z2f hi rfl rfl
theorem q1x {l:List Int} {s:Nat} {V:List Var} {u:Tip} (hl:q7q l) (h1:1≤s) (h2:s≤4) (hV:V.length≤400):GenOk l 172 [nat s, .sl (V.map z1b) u] (q9i V s 3 5):=by
 refine GenOk.of rfl y5k rfl rfl rfl (az:=[nat s, .sl (V.map z1b) .no]) rfl (by simp[idsL,z3c,AV.ids,z0c z2b]) fun D B p g i clk T hB hs hD hi hT=> ?_
 simp only[go_sem,w5r,hB]
 refine z0y (fun m q=>∃ (j:Nat) (acc:List Var) (t:Tip) (a b c d:AObj),j≤V.length∧m=V.length - j∧acc.length≤j∧(∀ v∈acc,v∈V∧v.sort=s)∧q.ts 0= .ptr p g 0 0∧q.ts 1=nat s∧q.ts 2= .sl (V.map z1b) .no∧q.ts 7= .sl (acc.map z1b) t∧q.ts 8= .int .i64 j∧q.h=D++[a,b,c,d]∧z8k B 1 b t 2) V.length ?_ ?_
 ·exact⟨0,[], .nil,_,_,_,_,by simp,rfl,by simp,by simp,rfl,rfl,rfl,rfl,rfl,rfl, .inl rfl⟩
 rintro m ⟨ts,h,clk⟩ P ⟨j,acc,t,a,b,c,d,hj,rfl,hal,hacc,g0,g1,g2,g7,g8,rfl,ht⟩ hn he hr
 dsimp only at g0 g1 g2 g7 g8
 simp only[go_sem,g0,g1,g2,g7,g8,List.length_map,k0a]
 refine z8c (fun hb=> ?_) (fun hb=> ?_)
 ·have hlt:j < V.length:=by simp at hb;omega
  simp only[go_sem,g0,g1,g2,g7,g8,z8x hlt,nat]
  have e1:IntKind.i64.wrap ((j:Int) + 1)=((j + 1:Nat):Int):=z0d (by omega) (by omega)
  refine z8c (fun hc=> ?_) (fun hc=> ?_)
  ·have hsort:V[j].sort=s:=by simp at hc;omega
   simp only[go_sem,g0,g1,g2,g7,g8,z8x hlt,nat]
   rw[show [AV.agg [.str V[j].name, .int .i64 (V[j].sort:Int)]]=[V[j]].map z1b from rfl,z0j hB rfl ht z2e z2e (by simp only[List.length_map,List.length_singleton];omega)]
   simp only[go_sem,g0,g1,g2,g7,g8,e1]
   refine hn (V.length - (j + 1)) _ (by omega) ⟨j + 1,acc++[V[j]],_,_,_,_,_,hlt,rfl,by simp;omega, ?_,g0,g1,g2, ?_,rfl,rfl, .inr (.inr ⟨_,rfl,rfl⟩)⟩
   ·intro v hv
    rw[List.mem_append,List.mem_singleton] at hv
    rcases hv with hv | rfl
    ·exact hacc v hv
    ·exact⟨List.getElem_mem hlt,hsort⟩
   ·simp only[z0b,z0,cond_true,cond_false,List.map_append,List.map_cons,List.map_nil]
  ·simp only[go_sem,g0,g1,g2,g7,g8,e1]
   exact hn (V.length - (j + 1)) _ (by omega) ⟨j + 1,acc,t,_,_,_,_,hlt,rfl,by omega,hacc,g0,g1,g2,g7,rfl,rfl,ht⟩
 ·simp only[go_sem,]
  refine he _ _ ?_
  simp only[go_sem,g0,g1,g2,g7,g8,List.length_map]
  refine z8c (fun hc=> ?_) (fun hc=> ?_)
  ·simp only[go_sem,g0,g1,g2,g7,g8]
   refine z0o (k6b hl h1 h2) hB hs hD hi ?_
   rintro v D1 i1 hv hB1 hD1 hi1
   simp only[go_sem,g0,g1,g2,g7,g8]
   obtain⟨t,hp,hg⟩:=j0c hv
   rw[z0a hp]
   simp only[go_sem,g0,g1,g2,g7,g8]
   rw[z1a]
   exact hT _ _ i1 (by rw[z0u hB1 hs];exact hD1) hi1 ⟨t,rfl,hg V⟩
  ·have hlen:acc.length≠0:=by simpa using hc
   simp only[go_sem,g0,g1,g2,g7,g8,List.length_map]
   refine z0o (z3h hl (by omega) (by omega)) hB hs hD hi ?_
   rintro v D1 i1 ⟨r,rfl,hr1,hr2⟩ hB1 hD1 hi1
   obtain⟨k,rfl⟩:∃ k:Nat,r=k:=⟨r.toNat,by omega⟩
   have hk:k < acc.length:=by omega
   simp only[go_sem,g0,g1,g2,g7,g8,hB1,z1i,z8x hk,nat]
   obtain⟨hm,hsrt⟩:=hacc acc[k] (List.getElem_mem hk)
   have hn:NodeOk V ⟨4,s,acc[k].name,[],0⟩ [] s []:=by
    have:=NodeOk.var (ks:=[]) hm
    rw[hsrt] at this
    exact this
   show RV _ (some [.sl (List.map eNode [⟨4,s,acc[k].name,[],0⟩]) .full]) _ _
   rw[k0n]
   exact hT _ _ i1 (by rw[z0u hB1 hs];exact hD1) hi1 ⟨_,rfl,(GT.leaf hn rfl h1 h2).up (by omega) (by omega)⟩
section
theorem x4g {o:Nat} {l:List Term} {u:Tip} (hl:l.length≤2 ^ 20) (hf:l.flatten.length≤2 ^ 30):Pure Gam 118 [nat o, .sl (l.map z0l) u] (z0l (bare o l.length::l.flatten)):=by
 refine Pure.of rfl y5j rfl rfl rfl (az:=[nat o, .sl (l.map z0l) .no]) rfl (by simp[idsL,z3c,AV.ids,z0c z2q]) fun D B clk T hB hT=> ?_
 have hp:Pure Gam 147 [.agg [.int .i64 o, .int .i64 0, .str [], .str [], .int .i64 0], .sl (l.map z0l) .no] (z0l (bare o l.length::l.flatten)):=k0o (n:=bare o 0) hl hf
 simp only[go_sem,w5q,nat,hB,z1i]
 rw[z0a hp]
 simp only[go_sem,]
 rw[z1a]
 exact hT _
theorem opn {o:Nat} {i:Int} {l:List Term} {u:Tip} (hi:i=o) (hl:l.length≤2 ^ 20) (hf:l.flatten.length≤2 ^ 30):Pure Gam 118 [.int .i64 i, .sl (l.map z0l) u] (z0l (bare o l.length::l.flatten)):=by
 subst hi
 exact x4g hl hf
theorem op1 {o:Nat} {i:Int} {a:Term} (hi:i=o) (ha:a.length≤2 ^ 20):Pure Gam 118 [.int .i64 i, .sl [z0l a] .full] (z0l (bare o 1::a)):=by
 subst hi
 have:=x4g (o:=o) (l:=[a]) (u:= .full) (by simp) (by simp;omega)
 simpa [nat] using this
theorem op2 {o:Nat} {i:Int} {a b:Term} (hi:i=o) (ha:a.length≤2 ^ 20) (hb:b.length≤2 ^ 20):Pure Gam 118 [.int .i64 i, .sl [z0l a,z0l b] .full] (z0l (bare o 2::(a++b))):=by
 subst hi
 have:=x4g (o:=o) (l:=[a,b]) (u:= .full) (by simp) (by simp;omega)
 simpa [nat] using this
theorem op3 {o:Nat} {i:Int} {a b c:Term} (hi:i=o) (ha:a.length≤2 ^ 20) (hb:b.length≤2 ^ 20) (hc:c.length≤2 ^ 20):Pure Gam 118 [.int .i64 i, .sl [z0l a,z0l b,z0l c] .full] (z0l (bare o 3::(a++(b++c)))):=by
 subst hi
 have:=x4g (o:=o) (l:=[a,b,c]) (u:= .full) (by simp) (by simp;omega)
 simpa [nat] using this
section
variable {V:List Var}
theorem GT.op1 {o s s1 d m:Nat} {a:Term} (ha:GT V s1 d m a) (hn:NodeOk V (bare o 1) [s1] s a) (h1:1≤s) (h2:s≤4):GT V s (d + 1) (m + 1) (bare o 1::a):=
 ⟨WF.one ha.1 hn rfl,by have:=ha.2.1;simp;omega,h1,h2⟩
theorem GT.op2 {o s s1 s2 d m1 m2:Nat} {a b:Term} (ha:GT V s1 d m1 a) (hb:GT V s2 d m2 b) (hn:NodeOk V (bare o 2) [s1,s2] s (a++b)) (h1:1≤s) (h2:s≤4):GT V s (d + 1) (m1 + m2 + 1) (bare o 2::(a++b)):=
 ⟨WF.one (ha.1.append hb.1) hn rfl,by have:=ha.2.1;have:=hb.2.1;simp;omega,h1,h2⟩
theorem GT.op3 {o s s1 s2 s3 d m1 m2 m3:Nat} {a b c:Term} (ha:GT V s1 d m1 a) (hb:GT V s2 d m2 b) (hc:GT V s3 d m3 c) (hn:NodeOk V (bare o 3) [s1,s2,s3] s (a++(b++c))) (h1:1≤s) (h2:s≤4):GT V s (d + 1) (m1 + m2 + m3 + 1) (bare o 3::(a++(b++c))):=
 ⟨WF.one (ha.1.append (hb.1.append hc.1)) hn rfl,by have:=ha.2.1;have:=hb.2.1;have:=hc.2.1;simp;omega,h1,h2⟩
end
def TB (s d:Nat):Nat:=if s=1 then 11 * 6 ^ d else 5 * 6 ^ d
theorem bs5 {h:List AObj}:bsV h (.int .i64 0) 5 [0,1,2,3,4] [.int .i64 2, .int .i64 2, .int .i64 3, .int .i64 4, .int .i64 1]=some (.sl [.int .i64 2, .int .i64 2, .int .i64 3, .int .i64 4, .int .i64 1] .full,h):=(rfl)
theorem u5i {r:Nat} {h:List AObj} (hr:r < 5):∃ s:Nat,1≤s∧s≤4∧z1m h 1 (.sl [.int .i64 2, .int .i64 2, .int .i64 3, .int .i64 4, .int .i64 1] .full) (.int .i64 (r:Int))=some (.iptr [.int .i64 (s:Int)] 0,h):=by
 obtain rfl | rfl | rfl | rfl | rfl:r=0∨r=1∨r=2∨r=3∨r=4:=by omega
 ·exact⟨2,by omega,by omega,rfl⟩
 ·exact⟨2,by omega,by omega,rfl⟩
 ·exact⟨3,by omega,by omega,rfl⟩
 ·exact⟨4,by omega,by omega,rfl⟩
 ·exact⟨1,by omega,by omega,rfl⟩
variable {l:List Int} {V:List Var}
theorem z5s:(AV.sl (V.map z1b) .no).ids=[]:=k0k z2b
theorem k0w {d k m:Nat} {u:Tip} (hl:q7q l) (hV:V.length≤400) (hk:3≤k) (hm:5≤m) (hm2:m≤2 ^ 18) (hT:∀ s,2≤s→s≤4→GenOk l 178 [nat s,nat d, .sl (V.map z1b) .no] (q9i V s k m)):GenOk l 117 [nat d, .sl (V.map z1b) u] (q9i V 1 (k + 1) (2 * m + 1)):=by
 refine GenOk.of rfl y5n rfl rfl rfl (az:=[nat d, .sl (V.map z1b) .no]) rfl (by simp[idsL,z3c,z5s]) fun D B p g i clk T hB hs hD hi hR=> ?_
 simp only[go_sem,w5v,hB,nat,z1i,bs5]
 refine z0o (z3h hl (by decide) (by decide)) hB hs hD hi ?_
 rintro v D1 i1 ⟨r,rfl,hr1,hr2⟩ hB1 hD1 hi1
 obtain⟨q,rfl⟩:∃ k:Nat,r=k:=⟨r.toNat,by omega⟩
 obtain⟨s,hs1,hs4,hidx⟩:=u5i (r:=q) (h:=D1++[.dead, .dead]) (by omega)
 simp only[go_sem,hB1,hidx]
 refine z8c (fun hb=> ?_) (fun hb=> ?_)
 ·have hs1':s=1:=by simp at hb;omega
  subst hs1'
  simp only[go_sem,hB1]
  refine z0o (z3h hl (by decide) (by decide)) hB1 hs hD1 hi1 ?_
  rintro v D2 i2 ⟨r,rfl,hr3,hr4⟩ hB2 hD2 hi2
  simp only[go_sem,hB2]
  refine z8c (fun hc=> ?_) (fun hc=> ?_)
  ·simp only[go_sem,hB2]
   refine z0o (z3h hl (by decide) (by decide)) hB2 hs hD2 hi2 ?_
   rintro v D3 i3 ⟨r3,rfl,hr5,hr6⟩ hB3 hD3 hi3
   simp only[go_sem,hB3]
   rw[z0a q9h]
   simp only[go_sem,hB3]
   rw[z1a]
   refine hR _ _ i3 (by rw[z0u hB3 hs];exact hD3) hi3 ⟨_,rfl, ?_⟩
   refine (GT.leaf (n:=bare (if decide (r3=1)=true then 1 else 2) 0) (.bool ?_) rfl (by omega) (by omega)).up (by omega) (by omega)
   split <;> simp
  ·simp only[go_sem,hB2]
   refine z0o (q1x (s:=1) hl (by omega) (by omega) hV) hB2 hs hD2 hi2 ?_
   rintro v D3 i3 ⟨t,rfl,ht⟩ hB3 hD3 hi3
   simp only[go_sem,hB3]
   rw[z1a]
   exact hR _ _ i3 (by rw[z0u hB3 hs];exact hD3) hi3 ⟨_,rfl,ht.up (by omega) (by omega)⟩
 ·have hs2:2≤s:=by simp at hb;omega
  have fin:∀ (o:Nat) (ts:Tmps) (clk:Nat) (D2:List AObj) (i2:Nat) (a b:AObj),(o=11∨(s≠4∧(o=12∨o=13)))→D2.length=B→D2[p]? =some (z5c g l i2)→i2≤l.length→ts 8= .int .i64 (o:Int)→ts 0= .ptr p g 0 0→ts 7= .int .i64 (s:Int)→ts 1= .int .i64 (d:Int)→ts 2= .sl (V.map z1b) .no→
    K Gam B (.seq (.region 14 [⟨some 33, .move (.tmp 8),none⟩,⟨some 34, .move (.tmp 0),none⟩,⟨some 35, .move (.tmp 7),none⟩,⟨some 36, .move (.tmp 1),none⟩,⟨some 37, .move (.tmp 2),none⟩,⟨some 38, .call 178 [.tmp 34, .tmp 35, .tmp 36, .tmp 37],none⟩,⟨some 39, .move (.tmp 0),none⟩,⟨some 40, .move (.tmp 7),none⟩,⟨some 41, .move (.tmp 1),none⟩,⟨some 42, .move (.tmp 2),none⟩,⟨some 43, .call 178 [.tmp 39, .tmp 40, .tmp 41, .tmp 42],none⟩,⟨some 44, .buildSlice 1 false (.sl [] .nil) 2 [(0, .tmp 38),(1, .tmp 43)],none⟩,⟨some 45, .call 118 [.tmp 33, .tmp 44],none⟩,⟨some 6, .move (.tmp 45),none⟩] []) .ret) [] ⟨ts,D2++[a,b],clk⟩ (j8w [p] [.tmp 6] T):=by
   intro o ts clk D2 i2 a b ho hB2 hD2 hi2 g8 g0 g7 g1 g2
   simp only[go_sem,g8,g0,g7,g1,g2]
   refine z0o (hT s hs2 hs4) hB2 hs hD2 hi2 ?_
   rintro v D3 i3 ⟨t1,rfl,ht1⟩ hB3 hD3 hi3
   simp only[go_sem,g8,g0,g7,g1,g2]
   refine z0o (hT s hs2 hs4) hB3 hs hD3 hi3 ?_
   rintro v D4 i4 ⟨t2,rfl,ht2⟩ hB4 hD4 hi4
   simp only[go_sem,g8,g0,g7,g1,g2,z3e]
   have l1:=ht1.2.1
   have l2:=ht2.2.1
   rw[z0a (op2 rfl (by omega) (by omega))]
   simp only[go_sem,]
   rw[z1a]
   refine hR _ _ i4 (by rw[z0u hB4 hs];exact hD4) hi4 ⟨_,rfl,(GT.op2 ht1 ht2 ?_ (by omega) (by omega)).up (by omega) (by omega)⟩
   rcases ho with rfl | ⟨hs',ho⟩
   ·exact .eq hs1 hs4
   ·exact .cmp ho (by omega)
  simp only[go_sem,hB1]
  refine z8c (fun hc=> ?_) (fun hc=> ?_)
  ·have hs3:s≠4:=by simp at hc;omega
   simp only[go_sem,hB1]
   refine z0o (z3h hl (by decide) (by decide)) hB1 hs hD1 hi1 ?_
   rintro v D2 i2 ⟨r,rfl,hr3,hr4⟩ hB2 hD2 hi2
   obtain⟨q,rfl⟩:∃ k:Nat,r=k:=⟨r.toNat,by omega⟩
   have e1:IntKind.i64.wrap (11 + (q:Int))=((11 + q:Nat):Int):=by rw[z0d (by omega) (by omega)];omega
   simp only[j9e,k9m,k9o,j2j,z0b,z0,cond_true,cond_false,z9f,x7e,k9n,j9d,e1,q8z,q5u]
   exact fin (11 + q) _ _ D2 i2 _ _ (by omega) hB2 hD2 hi2 rfl rfl rfl rfl rfl
  ·rw[q5u]
   exact fin 11 _ _ D1 i1 _ _ (.inl rfl) hB1 hD1 hi1 rfl rfl rfl rfl rfl
end
section
variable {l:List Int} {V:List Var}
def q9j (l:List Int) (V:List Var) (d:Nat):Prop:=∀ s,1≤s→s≤4→GenOk l 178 [nat s,nat d, .sl (V.map z1b) .no] (q9i V s (d + 4) (TB s d))
def q4w (l:List Int) (V:List Var) (d:Nat):Prop:=GenOk l 53 [nat d, .sl (V.map z1b) .no] (q9i V 1 (d + 4) (11 * 6 ^ d))
def y5x (l:List Int) (V:List Var) (d:Nat):Prop:=∀ s,1≤s→s≤4→GenOk l 119 [nat s,nat d, .sl (V.map z1b) .no] (q9i V s (d + 4) (TB s d))
def u5j (l:List Int) (V:List Var) (d:Nat):Prop:=∀ s,s=2∨s=3→GenOk l 247 [nat s,nat d, .sl (V.map z1b) .no] (q9i V s (d + 4) (TB s d))
theorem z5j {e:Nat} (he:e≤10):IntKind.i64.wrap (((e + 1:Nat):Int) - 1)=(e:Int):=by rw[z0d (by omega) (by omega)];omega
theorem j0d {s e:Nat}:TB s (e + 1)=6 * TB s e:=by unfold TB;split <;> rw[Nat.pow_succ] <;> omega
theorem w6i {s e:Nat}:TB s e≤11 * 6 ^ e:=by
 have:1≤6 ^ e:=Nat.pos_of_ne_zero (by simp)
 unfold TB;split <;> omega
theorem w6j {s e:Nat}:5 * 6 ^ e≤TB s e:=by
 unfold TB;split <;> omega
theorem k0x {e:Nat} (he:e≤3) (hF:q4w l V e) (hT:q9j l V e):y5x l V (e + 1):=by
 intro s h1 h2
 refine GenOk.of rfl y5o rfl rfl rfl (az:=[nat s,nat (e + 1), .sl (V.map z1b) .no]) rfl (by simp[idsL,z3c,z5s]) fun D B p g i clk T hB hs hD hi hR=> ?_
 have h6:6 ^ e≤6 ^ 4:=Nat.pow_le_pow_right (by omega) (by omega)
 have h6':1≤6 ^ e:=Nat.pos_of_ne_zero (by simp)
 have em:=z5j (e:=e) (by omega)
 simp only[go_sem,w5w,hB,nat,em]
 refine z0o hF hB hs hD hi ?_
 rintro v D1 i1 ⟨t1,rfl,ht1⟩ hB1 hD1 hi1
 simp only[go_sem,em]
 refine z0o (hT s h1 h2) hB1 hs hD1 hi1 ?_
 rintro v D2 i2 ⟨t2,rfl,ht2⟩ hB2 hD2 hi2
 simp only[go_sem,em]
 refine z0o (hT s h1 h2) hB2 hs hD2 hi2 ?_
 rintro v D3 i3 ⟨t3,rfl,ht3⟩ hB3 hD3 hi3
 have l1:=ht1.2.1
 have l2:=ht2.2.1
 have l3:=ht3.2.1
 have lb:TB s e≤11 * 6 ^ e:=w6i
 simp only[go_sem,z3e]
 rw[z0a (op3 (o:=10) (i:=10) rfl (by omega) (by omega) (by omega))]
 simp only[go_sem,]
 rw[z1a]
 refine hR _ _ i3 (by rw[z0u hB3 hs];exact hD3) hi3 ⟨_,rfl,(GT.op3 ht1 ht2 ht3 (.ite h1 h2) h1 h2).up (by omega) ?_⟩
 rw[j0d]
 unfold TB
 split <;> omega
theorem q3t {s:Nat} (hl:q7q l) (hV:V.length≤400) (h1:1≤s) (h2:s≤4):GenOk l 178 [nat s,nat 0, .sl (V.map z1b) .no] (q9i V s 3 5):=by
 refine GenOk.of rfl w5t rfl rfl rfl (az:=[nat s,nat 0, .sl (V.map z1b) .no]) rfl (by simp[idsL,z3c,z5s]) fun D B p g i clk T hB hs hD hi hR=> ?_
 simp only[go_sem,v5o,hB,nat,Int.reduceLE,decide_true]
 refine z0o (z3h hl (by decide) (by decide)) hB hs hD hi ?_
 rintro v D1 i1 ⟨r,rfl,hr1,hr2⟩ hB1 hD1 hi1
 simp only[go_sem,hB1]
 refine z8c (fun hc=> ?_) (fun hc=> ?_)
 ·simp only[go_sem,]
  refine z0o (k6b hl h1 h2) hB1 hs hD1 hi1 ?_
  rintro v D2 i2 hv hB2 hD2 hi2
  simp only[go_sem,]
  obtain⟨t,hp,hg⟩:=j0c hv
  rw[z0a hp]
  simp only[go_sem,]
  rw[z1a]
  exact hR _ _ i2 (by rw[z0u hB2 hs];exact hD2) hi2 ⟨t,rfl,(hg V).up (by omega) (by omega)⟩
 ·simp only[go_sem,]
  refine z0o (q1x hl h1 h2 hV) hB1 hs hD1 hi1 ?_
  rintro v D2 i2 ⟨t,rfl,ht⟩ hB2 hD2 hi2
  simp only[go_sem,]
  rw[z1a]
  exact hR _ _ i2 (by rw[z0u hB2 hs];exact hD2) hi2 ⟨t,rfl,ht.up (by omega) (by omega)⟩
end
section
variable {l:List Int} {V:List Var}
theorem q3u {s d:Nat}:∀ {az:List Term},(∀ t∈az,WF V [s] d t)→WF V (List.replicate az.length s) d az.flatten
 | [],_=> .nil
 | t::az,h=>by
   have:=(h t List.mem_cons_self).append (q3u (az:=az) fun q hq=>h q (List.mem_cons_of_mem _ hq))
   simpa [List.replicate_succ] using this
theorem x4h {m:Nat}:∀ {az:List Term},(∀ t∈az,t.length≤m)→az.flatten.length≤az.length * m
 | [],_=>by simp
 | t::az,h=>by
   have h1:=h t List.mem_cons_self
   have h2:=x4h (az:=az) fun q hq=>h q (List.mem_cons_of_mem _ hq)
   simp only[List.flatten_cons,List.length_append,List.length_cons,Nat.add_mul,Nat.one_mul]
   omega
theorem k6c {e B p g i clk:Nat} {D:List AObj} {ts:Tmps} {a b c d x:AObj} {ks:List Kf} {Q:Post} {n:Nat} (he:e≤3) (hn:n≤3) (hF:q4w l V e) (hB:D.length=B) (hs:p < B) (hD:D[p]? =some (z5c g l i)) (hi:i≤l.length)
  (g0:ts 0= .ptr p g 0 0) (g1:ts 1=nat (e + 1)) (g2:ts 2= .sl (V.map z1b) .no) (g7:ts 7= .sl [] .nil) (g8:ts 8= .int .i64 (n:Int))
  (hQ:∀ (acc:List Term) (t:Tip) (ts':Tmps) (D':List AObj) (i':Nat) (a b c d x:AObj) (clk':Nat),acc.length≤3→(∀ t∈acc,GT V 1 (e + 4) (11 * 6 ^ e) t)→D'.length=B→D'[p]? =some (z5c g l i')→i'≤l.length→ts' 0= .ptr p g 0 0→ts' 7= .sl (acc.map z0l) t→K Gam B (.exit 1) ks ⟨ts',D'++[a,b,c,d,x],clk'⟩ Q):
  K Gam B (.loop j2w) ks ⟨ts,D++[a,b,c,d,x],clk⟩ Q:=by
 refine z0y (fun m q=>∃ (n:Nat) (acc:List Term) (t:Tip) (D:List AObj) (i:Nat) (a b c d x:AObj),m=n∧acc.length + n≤3∧(∀ t∈acc,GT V 1 (e + 4) (11 * 6 ^ e) t)∧D.length=B∧D[p]? =some (z5c g l i)∧i≤l.length∧q.ts 0= .ptr p g 0 0∧q.ts 1=nat (e + 1)∧q.ts 2= .sl (V.map z1b) .no∧q.ts 7= .sl (acc.map z0l) t∧q.ts 8= .int .i64 (n:Int)∧q.h=D++[a,b,c,d,x]∧z8k B 2 c t 1) n ?_ ?_
 ·exact⟨n,[], .nil,D,i,_,_,_,_,_,rfl,by simpa using hn,by simp,hB,hD,hi,g0,g1,g2,g7,g8,rfl, .inl rfl⟩
 clear g0 g1 g2 g7 g8 hB hD hi
 rintro m ⟨ts,h,clk⟩ P ⟨n,acc,t,D,i,a,b,c,d,x,rfl,hlen,hacc,hB,hD,hi,g0,g1,g2,g7,g8,rfl,ht⟩ hnx hex hr
 dsimp only at g0 g1 g2 g7 g8
 have h6:6 ^ e≤6 ^ 4:=Nat.pow_le_pow_right (by omega) (by omega)
 have em:=z5j (e:=e) (by omega)
 simp only[go_sem,g0,g1,g2,g7,g8,j2w]
 refine z8c (fun hb=> ?_) (fun hb=> ?_)
 ·have hpos:0 < m:=by simp at hb;omega
  obtain⟨n',rfl⟩:∃ n',m=n' + 1:=⟨m - 1,by omega⟩
  have en:IntKind.i64.wrap (((n' + 1:Nat):Int) - 1)=(n':Int):=z5j (by omega)
  simp only[go_sem,g0,g1,g2,g7,g8,nat,em]
  refine z0o hF hB hs hD hi ?_
  rintro v D1 i1 ⟨t1,rfl,ht1⟩ hB1 hD1 hi1
  simp only[go_sem,g0,g1,g2,g7,g8,z3e]
  rw[show [z0l t1]=[t1].map z0l from rfl,z0j hB1 rfl ht z3s z3s (by simp only[List.length_map,List.length_singleton];omega)]
  simp only[go_sem,g0,g1,g2,g7,g8,en]
  refine hnx n' _ (by omega) ⟨n',acc++[t1],_,D1,i1,_,_,_,_,_,rfl,by simp;omega, ?_,hB1,hD1,hi1,g0,g1,g2, ?_,rfl,rfl, .inr (.inr ⟨_,rfl,rfl⟩)⟩
  ·intro t' ht'
   rw[List.mem_append,List.mem_singleton] at ht'
   rcases ht' with ht' | rfl
   ·exact hacc t' ht'
   ·exact ht1
  ·simp only[z0b,z0,cond_true,cond_false,List.map_append,List.map_cons,List.map_nil]
 ·simp only[go_sem,]
  refine hex _ _ ?_
  exact hQ acc t _ D i _ _ _ _ _ _ (by omega) hacc hB hD hi (by simp[z0b,g0]) (by simp[z0b,g7])
theorem j0e (hl:q7q l) (hV:V.length≤400):q4w l V 0:=by
 have hA:=k0w (u:= .no) hl hV (Nat.le_refl 3) (Nat.le_refl 5) (by omega) fun s h1 h2=>q3t (s:=s) hl hV (by omega) h2
 refine GenOk.of rfl v5n rfl rfl rfl (az:=[nat 0, .sl (V.map z1b) .no]) rfl (by simp[idsL,z3c,z5s]) fun D B p g i clk T hB hs hD hi hR=> ?_
 simp only[go_sem,v5m,hB,nat,Int.reduceLE,decide_true]
 refine z0o hA hB hs hD hi ?_
 rintro v D1 i1 ⟨t1,rfl,ht1⟩ hB1 hD1 hi1
 simp only[go_sem,]
 rw[z1a]
 exact hR _ _ i1 (by rw[z0u hB1 hs];exact hD1) hi1 ⟨_,rfl,ht1.up (by omega) (by omega)⟩
theorem v0z {e:Nat} (hl:q7q l) (hV:V.length≤400) (he:e≤3) (hF:q4w l V e) (hT:q9j l V e):q4w l V (e + 1):=by
 have hA0:=k0w (u:= .no) hl hV (Nat.le_refl 3) (Nat.le_refl 5) (by omega) fun s h1 h2=>q3t (s:=s) hl hV (by omega) h2
 have h6:6 ^ e≤6 ^ 4:=Nat.pow_le_pow_right (by omega) (by omega)
 have h6':1≤6 ^ e:=Nat.pos_of_ne_zero (by simp)
 have hA:=k0w (d:=e) (u:= .no) (k:=e + 4) (m:=5 * 6 ^ e) hl hV (by omega) (by omega) (by omega) fun s h1 h2=>by
  have:=hT s (by omega) h2
  unfold TB at this
  rw[if_neg (by omega)] at this
  exact this
 have hI:=k0x he hF hT
 have e6:6 ^ (e + 1)=6 * 6 ^ e:=by rw[Nat.pow_succ,Nat.mul_comm]
 refine GenOk.of rfl v5n rfl rfl rfl (az:=[nat (e + 1), .sl (V.map z1b) .no]) rfl (by simp[idsL,z3c,z5s]) fun D B p g i clk T hB hs hD hi hR=> ?_
 have em:=z5j (e:=e) (by omega)
 have e0:decide (((e + 1:Nat):Int)≤0)=false:=by rw[decide_eq_false_iff_not];omega
 simp only[go_sem,v5m,hB,nat,e0]
 refine z0o v5r hB hs hD hi ?_
 rintro v D1 i1 ⟨b,rfl⟩ hB1 hD1 hi1
 simp only[go_sem,]
 refine z8c (fun hc=> ?_) (fun hc=> ?_)
 ·simp only[go_sem,]
  refine z0o hA0 hB1 hs hD1 hi1 ?_
  rintro v D2 i2 ⟨t1,rfl,ht1⟩ hB2 hD2 hi2
  simp only[go_sem,]
  rw[z1a]
  exact hR _ _ i2 (by rw[z0u hB2 hs];exact hD2) hi2 ⟨_,rfl,ht1.up (by omega) (by omega)⟩
 clear hD hi hc
 simp only[go_sem,]
 refine z0o (z3h hl (by decide) (by decide)) hB1 hs hD1 hi1 ?_
 rintro v D2 i2 ⟨r,rfl,hr1,hr2⟩ hB2 hD2 hi2
 clear hD1 hi1 hB1
 obtain⟨q,rfl⟩:∃ k:Nat,r=k:=⟨r.toNat,by omega⟩
 have hq:(q=0∨q=1)∨(q=2∨q=3∨q=4∨q=5)∨q=6∨q=7∨q=8∨9≤q:=by omega
 rcases hq with hq | hq | rfl | rfl | rfl | hq
 ·
  rcases hq with rfl | rfl
  all_goals
   simp only[go_sem,Int.reduceEq,decide_true,decide_false,em]
   refine z0o hF hB2 hs hD2 hi2 ?_
   rintro v D3 i3 ⟨t1,rfl,ht1⟩ hB3 hD3 hi3
   have l1:=ht1.2.1
   simp only[go_sem,z3e]
   rw[z0a (op1 (o:=6) (i:=6) rfl (by omega))]
   simp only[go_sem,]
   rw[z1a]
   exact hR _ _ i3 (by rw[z0u hB3 hs];exact hD3) hi3 ⟨_,rfl,(GT.op1 ht1 .not (by omega) (by omega)).up (by omega) (by omega)⟩
 ·
  rcases hq with rfl | rfl | rfl | rfl
  all_goals
   simp only[go_sem,Int.reduceEq,decide_true,decide_false,em]
   refine z0o (z3h hl (by decide) (by decide)) hB2 hs hD2 hi2 ?_
   rintro v D3 i3 ⟨r3,rfl,hr3,hr4⟩ hB3 hD3 hi3
   obtain⟨n,rfl⟩:∃ k:Nat,r3=k:=⟨r3.toNat,by omega⟩
   simp only[go_sem,]
   refine k6c (n:=n) (i:=i3) he (by omega) hF hB3 hs hD3 hi3 rfl rfl rfl rfl rfl ?_
   intro acc t ts' D4 i4 a1 a2 a3 a4 a5 clk' hlen hacc hB4 hD4 hi4 g0 g7
   simp only[go_sem,g0,g7]
   refine z0o (z3h hl (by decide) (by decide)) hB4 hs hD4 hi4 ?_
   rintro v D5 i5 ⟨r5,rfl,hr5,hr6⟩ hB5 hD5 hi5
   obtain⟨z,rfl⟩:∃ k:Nat,r5=k:=⟨r5.toNat,by omega⟩
   have e7:IntKind.i64.wrap (7 + (z:Int))=((7 + z:Nat):Int):=by rw[z0d (by omega) (by omega)];omega
   have hfl:=x4h (m:=11 * 6 ^ e) (az:=acc) fun t ht=>(hacc t ht).2.1
   have hfl2:acc.length * (11 * 6 ^ e)≤3 * (11 * 6 ^ e):=Nat.mul_le_mul_right _ hlen
   simp only[go_sem,g0,g7,e7]
   rw[z0a (opn (o:=7 + z) (l:=acc) rfl (by omega) (by omega))]
   simp only[go_sem,]
   rw[z1a]
   refine hR _ _ i5 (by rw[z0u hB5 hs];exact hD5) hi5 ⟨_,rfl,⟨(WF.one (q3u fun t ht=>(hacc t ht).1) (.andor (by omega)) (by simp[bare])).up (by omega),by rw[List.length_cons];omega,by omega,by omega⟩⟩
 ·
  simp only[go_sem,Int.reduceEq,decide_true,decide_false,em]
  refine z0o hF hB2 hs hD2 hi2 ?_
  rintro v D3 i3 ⟨t1,rfl,ht1⟩ hB3 hD3 hi3
  simp only[go_sem,em]
  refine z0o hF hB3 hs hD3 hi3 ?_
  rintro v D4 i4 ⟨t2,rfl,ht2⟩ hB4 hD4 hi4
  have l1:=ht1.2.1
  have l2:=ht2.2.1
  simp only[go_sem,z3e]
  rw[z0a (op2 (o:=9) (i:=9) rfl (by omega) (by omega))]
  simp only[go_sem,]
  rw[z1a]
  exact hR _ _ i4 (by rw[z0u hB4 hs];exact hD4) hi4 ⟨_,rfl,(GT.op2 ht1 ht2 .imp (by omega) (by omega)).up (by omega) (by omega)⟩
 ·
  simp only[go_sem,Int.reduceEq,decide_true,decide_false,em]
  refine z0o (hI 1 (by omega) (by omega)) hB2 hs hD2 hi2 ?_
  rintro v D3 i3 ⟨t1,rfl,ht1⟩ hB3 hD3 hi3
  simp only[go_sem,]
  rw[z1a]
  exact hR _ _ i3 (by rw[z0u hB3 hs];exact hD3) hi3 ⟨_,rfl,ht1⟩
 ·
  simp only[go_sem,Int.reduceEq,decide_true,decide_false,em]
  refine z0o hF hB2 hs hD2 hi2 ?_
  rintro v D3 i3 ⟨t1,rfl,ht1⟩ hB3 hD3 hi3
  simp only[go_sem,em]
  refine z0o hF hB3 hs hD3 hi3 ?_
  rintro v D4 i4 ⟨t2,rfl,ht2⟩ hB4 hD4 hi4
  have l1:=ht1.2.1
  have l2:=ht2.2.1
  simp only[go_sem,z3e]
  rw[z0a (op2 (o:=11) (i:=11) rfl (by omega) (by omega))]
  simp only[go_sem,]
  rw[z1a]
  exact hR _ _ i4 (by rw[z0u hB4 hs];exact hD4) hi4 ⟨_,rfl,(GT.op2 ht1 ht2 (.eq (by omega) (by omega)) (by omega) (by omega)).up (by omega) (by omega)⟩
 ·
  have d0:∀ k:Int,0≤k→k < 9→decide ((q:Int)=k)=false:=fun k h1 h2=>by rw[decide_eq_false_iff_not];omega
  simp only[go_sem,d0 0 (by decide) (by decide),d0 1 (by decide) (by decide),d0 2 (by decide) (by decide),d0 3 (by decide) (by decide),d0 4 (by decide) (by decide),d0 5 (by decide) (by decide),d0 6 (by decide) (by decide),d0 7 (by decide) (by decide),d0 8 (by decide) (by decide),em]
  refine z0o hA hB2 hs hD2 hi2 ?_
  rintro v D3 i3 ⟨t1,rfl,ht1⟩ hB3 hD3 hi3
  simp only[go_sem,]
  rw[z1a]
  exact hR _ _ i3 (by rw[z0u hB3 hs];exact hD3) hi3 ⟨_,rfl,ht1.up (by omega) (by omega)⟩
end
section
variable {l:List Int} {V:List Var}
def y5y (s:Nat) (a:List Nat):Prop:=(s=2∧IntS a)∨(s=3∧RatS a)
def x1d (l:List Int):Prop:=∀ s,s=2∨s=3→GenOk l 300 [nat s] fun v=>∃ a,v= .str a∧y5y s a
theorem GT.num {s:Nat} {a:List Nat} (h:y5y s a):GT V s 1 1 [⟨3,s,[],a,0⟩]:=by
 rcases h with ⟨rfl,h⟩ | ⟨rfl,h⟩
 ·exact GT.leaf (.int h) rfl (by omega) (by omega)
 ·exact GT.leaf (.real h) rfl (by omega) (by omega)
theorem w6k {e B p g i s clk:Nat} {D:List AObj} {ts:Tmps} {a b c d x y z:AObj} {ks:List Kf} {Q:Post} {n:Nat} {t0:Term} (he:e≤3) (hn:n≤2) (h1:1≤s) (h2:s≤4) (hT:q9j l V e) (hB:D.length=B) (hs:p < B) (hD:D[p]? =some (z5c g l i)) (hi:i≤l.length)
  (g0:ts 0= .ptr p g 0 0) (gs:ts 1=nat s) (g1:ts 2=nat (e + 1)) (g2:ts 3= .sl (V.map z1b) .no) (g7:ts 10= .sl [z0l t0] .full) (g8:ts 11= .int .i64 (n:Int)) (ht0:GT V s (e + 4) (TB s e) t0)
  (hQ:∀ (acc:List Term) (t:Tip) (ts':Tmps) (D':List AObj) (i':Nat) (a b c d x y z:AObj) (clk':Nat),1≤acc.length→acc.length≤3→(∀ t∈acc,GT V s (e + 4) (TB s e) t)→D'.length=B→D'[p]? =some (z5c g l i')→i'≤l.length→ts' 0= .ptr p g 0 0→ts' 10= .sl (acc.map z0l) t→K Gam B (.exit 1) ks ⟨ts',D'++[a,b,c,d,x,y,z],clk'⟩ Q):
  K Gam B (.loop j2x) ks ⟨ts,D++[a,b,c,d,x,y,z],clk⟩ Q:=by
 refine z0y (fun m q=>∃ (n:Nat) (acc:List Term) (t:Tip) (D:List AObj) (i:Nat) (a b c d x y z:AObj),m=n∧1≤acc.length∧acc.length + n≤3∧(∀ t∈acc,GT V s (e + 4) (TB s e) t)∧D.length=B∧D[p]? =some (z5c g l i)∧i≤l.length∧q.ts 0= .ptr p g 0 0∧q.ts 1=nat s∧q.ts 2=nat (e + 1)∧q.ts 3= .sl (V.map z1b) .no∧q.ts 10= .sl (acc.map z0l) t∧q.ts 11= .int .i64 (n:Int)∧q.h=D++[a,b,c,d,x,y,z]∧z8k B 2 c t 1) n ?_ ?_
 ·exact⟨n,[t0], .full,D,i,_,_,_,_,_,_,_,rfl,by simp,by simp;omega,by simpa using ht0,hB,hD,hi,g0,gs,g1,g2,g7,g8,rfl, .inr (.inl rfl)⟩
 clear g0 gs g1 g2 g7 g8 hB hD hi
 rintro m ⟨ts,h,clk⟩ P ⟨n,acc,t,D,i,a,b,c,d,x,y,z,rfl,hlen1,hlen,hacc,hB,hD,hi,g0,gs,g1,g2,g7,g8,rfl,ht⟩ hnx hex hr
 dsimp only at g0 gs g1 g2 g7 g8
 have em:=z5j (e:=e) (by omega)
 simp only[go_sem,g0,gs,g1,g2,g7,g8,j2x]
 refine z8c (fun hb=> ?_) (fun hb=> ?_)
 ·have hpos:0 < m:=by simp at hb;omega
  obtain⟨n',rfl⟩:∃ n',m=n' + 1:=⟨m - 1,by omega⟩
  have en:IntKind.i64.wrap (((n' + 1:Nat):Int) - 1)=(n':Int):=z5j (by omega)
  simp only[go_sem,g0,gs,g1,g2,g7,g8,nat,em]
  refine z0o (hT s h1 h2) hB hs hD hi ?_
  rintro v D1 i1 ⟨t1,rfl,ht1⟩ hB1 hD1 hi1
  simp only[go_sem,g0,gs,g1,g2,g7,g8,z3e]
  rw[show [z0l t1]=[t1].map z0l from rfl,z0j hB1 rfl ht z3s z3s (by simp only[List.length_map,List.length_singleton];omega)]
  simp only[go_sem,g0,gs,g1,g2,g7,g8,en]
  refine hnx n' _ (by omega) ⟨n',acc++[t1],_,D1,i1,_,_,_,_,_,_,_,rfl,by simp,by simp;omega, ?_,hB1,hD1,hi1,g0,gs,g1,g2, ?_,rfl,rfl, .inr (.inr ⟨_,rfl,rfl⟩)⟩
  ·intro t' ht'
   rw[List.mem_append,List.mem_singleton] at ht'
   rcases ht' with ht' | rfl
   ·exact hacc t' ht'
   ·exact ht1
  ·simp only[z0b,z0,cond_true,cond_false,List.map_append,List.map_cons,List.map_nil]
 ·simp only[go_sem,]
  refine hex _ _ ?_
  exact hQ acc t _ D i _ _ _ _ _ _ _ _ hlen1 (by omega) hacc hB hD hi (by simp[z0b,g0]) (by simp[z0b,g7])
theorem w6l {e:Nat} (hl:q7q l) (hV:V.length≤400) (he:e≤3) (hN:x1d l) (hF:q4w l V e) (hT:q9j l V e):u5j l V (e + 1):=by
 intro s hs23
 have h1:1≤s:=by omega
 have h2:s≤4:=by omega
 have hI:=k0x he hF hT
 have h6:6 ^ e≤6 ^ 4:=Nat.pow_le_pow_right (by omega) (by omega)
 have h6':1≤6 ^ e:=Nat.pos_of_ne_zero (by simp)
 have hTB:TB s (e + 1)=30 * 6 ^ e:=by rw[j0d];unfold TB;rw[if_neg (by omega)];omega
 have hTB2:TB s e=5 * 6 ^ e:=by unfold TB;rw[if_neg (by omega)]
 have hTB4:TB 4 e=5 * 6 ^ e:=by unfold TB;rw[if_neg (by omega)]
 refine GenOk.of rfl y5p rfl rfl rfl (az:=[nat s,nat (e + 1), .sl (V.map z1b) .no]) rfl (by simp[idsL,z3c,z5s]) fun D B p g i clk T hB hs hD hi hR=> ?_
 have em:=z5j (e:=e) (by omega)
 simp only[go_sem,w5x,hB,nat]
 refine z0o (z3h hl (by decide) (by decide)) hB hs hD hi ?_
 rintro v D2 i2 ⟨r,rfl,hr1,hr2⟩ hB2 hD2 hi2
 obtain⟨q,rfl⟩:∃ k:Nat,r=k:=⟨r.toNat,by omega⟩
 have hq:q < 3∨(3≤q∧q < 5)∨q=5∨q=6∨q=7∨q=8∨q=9:=by omega
 rcases hq with hq | hq | rfl | rfl | rfl | rfl | rfl
 ·
  have e3:decide ((q:Int) < 3)=true:=by rw[decide_eq_true_iff];omega
  simp only[go_sem,e3,em]
  refine z0o (hT s h1 h2) hB2 hs hD2 hi2 ?_
  rintro v D3 i3 ⟨t1,rfl,ht1⟩ hB3 hD3 hi3
  simp only[go_sem,z3e]
  refine z0o (z3h hl (by decide) (by decide)) hB3 hs hD3 hi3 ?_
  rintro v D4 i4 ⟨r4,rfl,hr3,hr4⟩ hB4 hD4 hi4
  obtain⟨n,rfl⟩:∃ k:Nat,r4=k:=⟨r4.toNat,by omega⟩
  simp only[go_sem,]
  refine w6k (n:=n) (i:=i4) he (by omega) h1 h2 hT hB4 hs hD4 hi4 rfl rfl rfl rfl rfl rfl ht1 ?_
  intro acc t ts' D5 i5 a1 a2 a3 a4 a5 a6 a7 clk' hlen1 hlen hacc hB5 hD5 hi5 g0 g7
  have hfl:=x4h (m:=TB s e) (az:=acc) fun t ht=>(hacc t ht).2.1
  have hfl2:acc.length * TB s e≤3 * TB s e:=Nat.mul_le_mul_right _ hlen
  simp only[go_sem,g0,g7]
  rw[z0a (opn (o:=14) (i:=14) (l:=acc) rfl (by omega) (by omega))]
  simp only[go_sem,]
  rw[z1a]
  refine hR _ _ i5 (by rw[z0u hB5 hs];exact hD5) hi5 ⟨_,rfl,⟨(WF.one (q3u fun t ht=>(hacc t ht).1) (.add hlen1 hs23) (by simp[bare])).up (by omega),by rw[List.length_cons];omega,by omega,by omega⟩⟩
 ·
  have e3:decide ((q:Int) < 3)=false:=by rw[decide_eq_false_iff_not];omega
  have e5:decide ((q:Int) < 5)=true:=by rw[decide_eq_true_iff];omega
  simp only[go_sem,e3,e5,em]
  refine z0o (hN s hs23) hB2 hs hD2 hi2 ?_
  rintro v D3 i3 ⟨a,rfl,ha⟩ hB3 hD3 hi3
  simp only[go_sem,em]
  have hp:=x4e (s:=s) (a:=a)
  rw[nat] at hp
  rw[z0a hp]
  simp only[go_sem,em]
  refine z0o (hT s h1 h2) hB3 hs hD3 hi3 ?_
  rintro v D4 i4 ⟨t1,rfl,ht1⟩ hB4 hD4 hi4
  have l1:=ht1.2.1
  simp only[go_sem,z3e]
  rw[z0a (op2 (o:=15) (i:=15) rfl (by simp) (by omega))]
  simp only[go_sem,]
  rw[z1a]
  exact hR _ _ i4 (by rw[z0u hB4 hs];exact hD4) hi4 ⟨_,rfl,(GT.op2 ((GT.num ha).up (d':=e + 4) (m':=1) (by omega) (by omega)) ht1 (.mul hs23 rfl) (by omega) (by omega)).up (by omega) (by omega)⟩
 ·
  simp only[go_sem,Int.reduceEq,Int.reduceLT,decide_true,decide_false]
  refine z0o (hI s h1 h2) hB2 hs hD2 hi2 ?_
  rintro v D3 i3 ⟨t1,rfl,ht1⟩ hB3 hD3 hi3
  simp only[go_sem,]
  rw[z1a]
  exact hR _ _ i3 (by rw[z0u hB3 hs];exact hD3) hi3 ⟨_,rfl,ht1⟩
 ·
  rcases hs23 with rfl | rfl
  ·simp only[go_sem,Int.reduceEq,Int.reduceLT,decide_true,decide_false]
   refine z0o (z3h hl (by decide) (by decide)) hB2 hs hD2 hi2 ?_
   rintro v D3 i3 ⟨r3,rfl,hr3,hr4⟩ hB3 hD3 hi3
   obtain⟨z,rfl⟩:∃ k:Nat,r3=k:=⟨r3.toNat,by omega⟩
   have e7:IntKind.i64.wrap (16 + (z:Int))=((16 + z:Nat):Int):=by rw[z0d (by omega) (by omega)];omega
   simp only[go_sem,e7]
   refine z0o (z3h hl (by decide) (by decide)) hB3 hs hD3 hi3 ?_
   rintro v D4 i4 ⟨r5,rfl,hr5,hr6⟩ hB4 hD4 hi4
   obtain⟨y,rfl⟩:∃ k:Nat,r5=k:=⟨r5.toNat,by omega⟩
   have e8:IntKind.i64.wrap (1 + (y:Int))=((1 + y:Nat):Int):=by rw[z0d (by omega) (by omega)];omega
   simp only[go_sem,e8]
   rw[z0a (q0j (by omega) (by omega)),z3d,if_neg (by omega),Int.natAbs_natCast]
   simp only[go_sem,hB4,z1i,em]
   refine z0o (hT 2 h1 h2) hB4 hs hD4 hi4 ?_
   rintro v D5 i5 ⟨t1,rfl,ht1⟩ hB5 hD5 hi5
   have l1:=ht1.2.1
   simp only[go_sem,z3e]
   have hp:Pure Gam 147 [.agg [.int .i64 ((16 + z:Nat):Int), .int .i64 0, .str [], .str (dec (1 + y)), .int .i64 0], .sl [z0l t1] .full] _:=k0o (n:=⟨16 + z,0,[],dec (1 + y),0⟩) (l:=[t1]) (u:= .full) (by simp) (by simp;omega)
   rw[z0a hp]
   simp only[go_sem,]
   refine⟨by simp[z1f,apart,z0i,z1d,z1h,AOp.isCall,hB4];omega, ?_⟩
   rw[z1a]
   refine hR _ _ i5 (by rw[z0u hB5 hs];exact hD5) hi5 ⟨_,rfl, ?_⟩
   have:=WF.one (n:=⟨16 + z,0,[],dec (1 + y),1⟩) ht1.1 (.div (by omega) (by omega) (by omega)) rfl
   refine⟨?_,by simp;omega,by omega,by omega⟩
   simpa using this
  ·simp only[go_sem,Int.reduceEq,Int.reduceLT,decide_true,decide_false]
   refine z0o (q1x hl h1 h2 hV) hB2 hs hD2 hi2 ?_
   rintro v D3 i3 ⟨t1,rfl,ht1⟩ hB3 hD3 hi3
   simp only[go_sem,]
   rw[z1a]
   exact hR _ _ i3 (by rw[z0u hB3 hs];exact hD3) hi3 ⟨_,rfl,ht1.up (by omega) (by omega)⟩
 ·
  rcases hs23 with rfl | rfl
  ·simp only[go_sem,Int.reduceEq,Int.reduceLT,decide_true,decide_false,em]
   refine z0o (hT 4 (by omega) (by omega)) hB2 hs hD2 hi2 ?_
   rintro v D3 i3 ⟨t1,rfl,ht1⟩ hB3 hD3 hi3
   simp only[go_sem,em]
   refine z0o (hT 2 h1 h2) hB3 hs hD3 hi3 ?_
   rintro v D4 i4 ⟨t2,rfl,ht2⟩ hB4 hD4 hi4
   have l1:=ht1.2.1
   have l2:=ht2.2.1
   simp only[go_sem,z3e]
   rw[z0a (op2 (o:=18) (i:=18) rfl (by omega) (by omega))]
   simp only[go_sem,]
   rw[z1a]
   exact hR _ _ i4 (by rw[z0u hB4 hs];exact hD4) hi4 ⟨_,rfl,(GT.op2 ht1 ht2 .select (by omega) (by omega)).up (by omega) (by omega)⟩
  ·simp only[go_sem,Int.reduceEq,Int.reduceLT,decide_true,decide_false]
   refine z0o (q1x hl h1 h2 hV) hB2 hs hD2 hi2 ?_
   rintro v D3 i3 ⟨t1,rfl,ht1⟩ hB3 hD3 hi3
   simp only[go_sem,]
   rw[z1a]
   exact hR _ _ i3 (by rw[z0u hB3 hs];exact hD3) hi3 ⟨_,rfl,ht1.up (by omega) (by omega)⟩
 ·
  simp only[go_sem,Int.reduceEq,Int.reduceLT,decide_true,decide_false]
  refine z0o (hN s hs23) hB2 hs hD2 hi2 ?_
  rintro v D3 i3 ⟨a,rfl,ha⟩ hB3 hD3 hi3
  simp only[go_sem,]
  have hp:=x4e (s:=s) (a:=a)
  rw[nat] at hp
  rw[z0a hp]
  simp only[go_sem,]
  rw[z1a]
  exact hR _ _ i3 (by rw[z0u hB3 hs];exact hD3) hi3 ⟨_,rfl,(GT.num ha).up (by omega) (by omega)⟩
 ·
  simp only[go_sem,Int.reduceEq,Int.reduceLT,decide_true,decide_false]
  refine z0o (q1x hl h1 h2 hV) hB2 hs hD2 hi2 ?_
  rintro v D3 i3 ⟨t1,rfl,ht1⟩ hB3 hD3 hi3
  simp only[go_sem,]
  rw[z1a]
  exact hR _ _ i3 (by rw[z0u hB3 hs];exact hD3) hi3 ⟨_,rfl,ht1.up (by omega) (by omega)⟩
end
section
variable {l:List Int} {V:List Var}
theorem w6m {e:Nat} (hl:q7q l) (hV:V.length≤400) (he:e≤3) (hN:x1d l) (hF:q4w l V e) (hT:q9j l V e):q9j l V (e + 1):=by
 intro s h1 h2
 have hI:=k0x he hF hT
 have hA:=w6l hl hV he hN hF hT
 have hF1:=v0z hl hV he hF hT
 have h6:6 ^ e≤6 ^ 4:=Nat.pow_le_pow_right (by omega) (by omega)
 have h6':1≤6 ^ e:=Nat.pos_of_ne_zero (by simp)
 have hTB:5 * 6 ^ e≤TB s e:=w6j
 have hTBs:=j0d (s:=s) (e:=e)
 have hT2:TB 2 e=5 * 6 ^ e:=rfl
 have hT4:TB 4 e=5 * 6 ^ e:=rfl
 refine GenOk.of rfl w5t rfl rfl rfl (az:=[nat s,nat (e + 1), .sl (V.map z1b) .no]) rfl (by simp[idsL,z3c,z5s]) fun D B p g i clk T hB hs hD hi hR=> ?_
 have em:=z5j (e:=e) (by omega)
 have e0:decide (((e + 1:Nat):Int)≤0)=false:=by rw[decide_eq_false_iff_not];omega
 simp only[go_sem,v5o,hB,nat,e0]
 refine z0o v5r hB hs hD hi ?_
 rintro v D1 i1 ⟨b,rfl⟩ hB1 hD1 hi1
 simp only[go_sem,]
 refine z8c (fun hc=> ?_) (fun hc=> ?_)
 ·simp only[go_sem,]
  refine z0o (z3h hl (by decide) (by decide)) hB1 hs hD1 hi1 ?_
  rintro v D2 i2 ⟨r,rfl,hr1,hr2⟩ hB2 hD2 hi2
  simp only[go_sem,]
  refine z8c (fun hc=> ?_) (fun hc=> ?_)
  ·simp only[go_sem,]
   refine z0o (k6b hl h1 h2) hB2 hs hD2 hi2 ?_
   rintro v D3 i3 hv hB3 hD3 hi3
   simp only[go_sem,]
   obtain⟨t,hp,hg⟩:=j0c hv
   rw[z0a hp]
   simp only[go_sem,]
   rw[z1a]
   exact hR _ _ i3 (by rw[z0u hB3 hs];exact hD3) hi3 ⟨t,rfl,(hg V).up (by omega) (by omega)⟩
  ·simp only[go_sem,]
   refine z0o (q1x hl h1 h2 hV) hB2 hs hD2 hi2 ?_
   rintro v D3 i3 ⟨t,rfl,ht⟩ hB3 hD3 hi3
   simp only[go_sem,]
   rw[z1a]
   exact hR _ _ i3 (by rw[z0u hB3 hs];exact hD3) hi3 ⟨t,rfl,ht.up (by omega) (by omega)⟩
 clear hD hi hc
 obtain rfl | hs23 | rfl:s=1∨(s=2∨s=3)∨s=4:=by omega
 ·simp only[go_sem,Int.reduceEq,decide_true,decide_false]
  refine z0o hF1 hB1 hs hD1 hi1 ?_
  rintro v D3 i3 ⟨t1,rfl,ht1⟩ hB3 hD3 hi3
  simp only[go_sem,]
  rw[z1a]
  exact hR _ _ i3 (by rw[z0u hB3 hs];exact hD3) hi3 ⟨_,rfl,ht1⟩
 ·have e1:decide ((s:Int)=1)=false:=by rw[decide_eq_false_iff_not];omega
  have e2:decide ((s:Int)=4)=false:=by rw[decide_eq_false_iff_not];omega
  simp only[go_sem,e1,e2]
  refine z0o (hA s hs23) hB1 hs hD1 hi1 ?_
  rintro v D3 i3 ⟨t1,rfl,ht1⟩ hB3 hD3 hi3
  simp only[go_sem,]
  rw[z1a]
  exact hR _ _ i3 (by rw[z0u hB3 hs];exact hD3) hi3 ⟨_,rfl,ht1⟩
 ·simp only[go_sem,Int.reduceEq,decide_true,decide_false]
  refine z0o (z3h hl (by decide) (by decide)) hB1 hs hD1 hi1 ?_
  rintro v D2 i2 ⟨r,rfl,hr1,hr2⟩ hB2 hD2 hi2
  obtain⟨q,rfl⟩:∃ k:Nat,r=k:=⟨r.toNat,by omega⟩
  obtain rfl | hq | rfl | rfl:q=0∨(q=1∨q=2)∨q=3∨q=4:=by omega
  ·simp only[go_sem,Int.reduceEq,decide_true,decide_false,em]
   refine z0o (hT 2 (by omega) (by omega)) hB2 hs hD2 hi2 ?_
   rintro v D3 i3 ⟨t1,rfl,ht1⟩ hB3 hD3 hi3
   have l1:=ht1.2.1
   simp only[go_sem,z3e]
   rw[z0a (op1 (o:=20) (i:=20) rfl (by omega))]
   simp only[go_sem,]
   rw[z1a]
   exact hR _ _ i3 (by rw[z0u hB3 hs];exact hD3) hi3 ⟨_,rfl,(GT.op1 ht1 .const (by omega) (by omega)).up (by omega) (by omega)⟩
  ·rcases hq with rfl | rfl
   all_goals
    simp only[go_sem,Int.reduceEq,decide_true,decide_false,em]
    refine z0o (hT 4 (by omega) (by omega)) hB2 hs hD2 hi2 ?_
    rintro v D3 i3 ⟨t1,rfl,ht1⟩ hB3 hD3 hi3
    simp only[go_sem,em]
    refine z0o (hT 2 (by omega) (by omega)) hB3 hs hD3 hi3 ?_
    rintro v D4 i4 ⟨t2,rfl,ht2⟩ hB4 hD4 hi4
    simp only[go_sem,em]
    refine z0o (hT 2 (by omega) (by omega)) hB4 hs hD4 hi4 ?_
    rintro v D5 i5 ⟨t3,rfl,ht3⟩ hB5 hD5 hi5
    have l1:=ht1.2.1
    have l2:=ht2.2.1
    have l3:=ht3.2.1
    simp only[go_sem,z3e]
    rw[z0a (op3 (o:=19) (i:=19) rfl (by omega) (by omega) (by omega))]
    simp only[go_sem,]
    rw[z1a]
    exact hR _ _ i5 (by rw[z0u hB5 hs];exact hD5) hi5 ⟨_,rfl,(GT.op3 ht1 ht2 ht3 .store (by omega) (by omega)).up (by omega) (by omega)⟩
  ·simp only[go_sem,Int.reduceEq,decide_true,decide_false]
   refine z0o (hI 4 (by omega) (by omega)) hB2 hs hD2 hi2 ?_
   rintro v D3 i3 ⟨t1,rfl,ht1⟩ hB3 hD3 hi3
   simp only[go_sem,]
   rw[z1a]
   exact hR _ _ i3 (by rw[z0u hB3 hs];exact hD3) hi3 ⟨_,rfl,ht1⟩
  ·simp only[go_sem,Int.reduceEq,decide_true,decide_false]
   refine z0o (q1x hl h1 h2 hV) hB2 hs hD2 hi2 ?_
   rintro v D3 i3 ⟨t1,rfl,ht1⟩ hB3 hD3 hi3
   simp only[go_sem,]
   rw[z1a]
   exact hR _ _ i3 (by rw[z0u hB3 hs];exact hD3) hi3 ⟨_,rfl,ht1.up (by omega) (by omega)⟩
theorem q1y (hl:q7q l) (hV:V.length≤400) (hN:x1d l):∀ d,d≤4→q9j l V d∧q4w l V d
 | 0,_=>by
   refine⟨fun s h1 h2 h p g i clk Q hs hi hQ=> ?_,j0e hl hV⟩
   refine q3t hl hV h1 h2 h p g i clk Q hs hi fun v i' hi' hv=>hQ v i' hi' ?_
   obtain⟨t,rfl,ht⟩:=hv
   have:=w6j (s:=s) (e:=0)
   exact⟨t,rfl,ht.up (by omega) (by omega)⟩
 | d + 1,hd=>by
   obtain⟨hT,hF⟩:=q1y hl hV hN d (by omega)
   exact⟨w6m hl hV (by omega) hN hF hT,v0z hl hV (by omega) hF hT⟩
end
end Go.Proofs.YtahdahokpjigiaaGreatDoor.Am
