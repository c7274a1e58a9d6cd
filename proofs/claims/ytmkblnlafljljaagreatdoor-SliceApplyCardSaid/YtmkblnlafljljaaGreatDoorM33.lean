/- Walking: nodes are permitted, and have their sorts Walking: a term is looked at from its last node on: what holds between the nodes Walking: a term is looked at from its last node on: a node Walking:  -/
import Derived.Test.YtmkblnlafljljaaGreatDoorM32
open Nat renaming reduceBEq → z0,reduceAdd → z1,reduceLeDiff → z2,reduceSub → z3
set_option linter.all false
namespace Go.Proofs.YtmkblnlafljljaaGreatDoor.Am
open Go
set_option maxRecDepth 100000
theorem v3e {V:List Var} {n:Node} {ss:List Nat} {s:Nat} {ks:Term} (hn:NodeOk V n ss s ks):Pure Gam 216 [nat n.op,nat n.kids] (.bool true):=by
 refine Pure.of rfl y1q rfl rfl rfl rfl rfl fun D B clk T hB hT=> ?_
 have e0:decide (((0:Nat):Int)=0)=true:=rfl
 cases hn with
 | bool h=>
   rcases h with rfl | rfl
   all_goals
    simp only[go_sem,z0,q9t,nat,bare,Int.cast_ofNat_Int,Int.reduceEq,decide_true,decide_false]
    rw[z0f]
    exact hT _
 | int h=>
   simp only[go_sem,z0,q9t,nat,Int.cast_ofNat_Int,Int.reduceEq,decide_true,decide_false]
   rw[z0f]
   exact hT _
 | real h=>
   simp only[go_sem,z0,q9t,nat,Int.cast_ofNat_Int,Int.reduceEq,decide_true,decide_false]
   rw[z0f]
   exact hT _
 | var h=>
   simp only[go_sem,z0,q9t,nat,Int.cast_ofNat_Int,Int.reduceEq,decide_true,decide_false]
   rw[z0f]
   exact hT _
 | andor h=>
   rcases h with rfl | rfl
   all_goals
    simp only[go_sem,z0,q9t,nat,bare,Int.cast_ofNat_Int,Int.reduceEq,decide_true,decide_false]
    rw[z0f]
    exact hT _
 | cmp h hs=>
   rcases h with rfl | rfl
   all_goals
    simp only[go_sem,z0,q9t,nat,bare,Int.cast_ofNat_Int,Int.reduceEq,decide_true,decide_false]
    rw[z0f]
    exact hT _
 | @add k _ _ h hs=>
   have e1:decide ((1:Int)≤(k:Int))=true:=by rw[decide_eq_true_iff];omega
   simp only[go_sem,z0,q9t,nat,bare,Int.cast_ofNat_Int,Int.reduceEq,decide_true,decide_false,e1]
   rw[z0f]
   exact hT _
 | div h h1 h5=>
   rcases h with rfl | rfl
   all_goals
    simp only[go_sem,z0,q9t,nat,Int.cast_ofNat_Int,Int.reduceEq,decide_true,decide_false]
    rw[z0f]
    exact hT _
 | _=>
   simp only[go_sem,z0,q9t,nat,bare,Int.cast_ofNat_Int,Int.reduceEq,decide_true,decide_false]
   rw[z0f]
   exact hT _
theorem q4c {l:List Nat}:idsL (l.map nat)=[]:=z0d fun _=>rfl
theorem k6j {k s:Nat}:∀ x∈List.replicate k s,x=s:=fun _ hx=>(List.mem_replicate.1 hx).2
theorem k3f {k s:Nat} {h:List AObj} {t:Tip} (hk:1≤k):z1t h 1 (.sl ((List.replicate k s).map nat) t) (.int .i64 0)=some (.iptr [.int .i64 (s:Int)] 0,h):=by
 obtain⟨k,rfl⟩:∃ j,k=j + 1:=⟨k - 1,by omega⟩
 exact z5c (i:=0) (e:=nat s) rfl rfl
theorem v3f {V:List Var} {n:Node} {ss:List Nat} {s:Nat} {ks:Term} {t:Tip} (hn:NodeOk V n ss s ks) (hl:ss.length≤2 ^ 20):Pure Gam 218 [eNode n, .sl (ss.map nat) t] (.int .i64 (s:Int)):=by
 refine Pure.of rfl y1r rfl rfl rfl (az:=[eNode n, .sl (ss.map nat) .no]) (by simp[cvL,j6n,AV.cv]) (by simp[idsL,z3r,AV.ids,q4c]) fun D B clk T hB hT=> ?_
 cases hn with
 | bool h=>
   have hp:=q1h (ss:=[]) (s:=1) (t:= .no) (by simp) (by simp)
   rw[List.map_nil,nat,Int.cast_ofNat_Int] at hp
   rcases h with rfl | rfl
   all_goals
    simp only[go_sem,z0,z1,↓reduceIte,q1f,hB,eNode,nat,bare,Int.cast_ofNat_Int,Int.reduceEq,decide_true,decide_false,z0a hp,z0a z2f]
    rw[z2h]
    exact hT _
 | int h=>
   simp only[go_sem,z0,z1,↓reduceIte,q1f,hB,eNode,nat,Int.cast_ofNat_Int,Int.reduceEq,decide_true,decide_false]
   rw[z2h]
   exact hT _
 | real h=>
   simp only[go_sem,z0,z1,↓reduceIte,q1f,hB,eNode,nat,Int.cast_ofNat_Int,Int.reduceEq,decide_true,decide_false]
   rw[z2h]
   exact hT _
 | var h=>
   simp only[go_sem,z0,z1,↓reduceIte,q1f,hB,eNode,nat,Int.cast_ofNat_Int,Int.reduceEq,decide_true,decide_false]
   rw[z2h]
   exact hT _
 | not=>
   have hp:=q1h (ss:=[1]) (s:=1) (t:= .no) (by simp) (by simp)
   rw[List.map_cons,List.map_nil,nat,Int.cast_ofNat_Int] at hp
   simp only[go_sem,z0,z1,↓reduceIte,q1f,hB,eNode,nat,bare,Int.cast_ofNat_Int,Int.reduceEq,decide_true,decide_false,z0a hp,z0a z2f]
   rw[z2h]
   exact hT _
 | @andor o k _ h=>
   have hp:=q1h (ss:=List.replicate k 1) (s:=1) (t:= .no) k6j hl
   rw[show nat 1= .int .i64 1 from rfl] at hp
   rcases h with rfl | rfl
   all_goals
    simp only[go_sem,z0,z1,z2,z3,reduceCtorEq,↓reduceIte,q1f,hB,eNode,nat,bare,Int.cast_ofNat_Int,Int.reduceEq,decide_true,decide_false,z0a hp,z0a z2f]
    rw[z2h]
    exact hT _
 | imp=>
   have hp:=q1h (ss:=[1,1]) (s:=1) (t:= .no) (by simp) (by simp)
   rw[List.map_cons,List.map_cons,List.map_nil,nat,Int.cast_ofNat_Int] at hp
   simp only[go_sem,z0,z1,↓reduceIte,q1f,hB,eNode,nat,bare,Int.cast_ofNat_Int,Int.reduceEq,decide_true,decide_false,z0a hp,z0a z2f]
   rw[z2h]
   exact hT _
 | @ite s _ h1 h2=>
   have e1:decide ((s:Int)=(s:Int))=true:=by simp
   simp only[go_sem,z0,z1,↓reduceIte,q1f,hB,eNode,nat,bare,Int.cast_ofNat_Int,Int.reduceEq,decide_true,decide_false,z2e,z9r,q8p,z0a z2f]
   rw[z2h]
   exact hT _
 | @eq s _ h1 h2=>
   simp only[go_sem,z0,z1,↓reduceIte,q1f,hB,eNode,nat,bare,Int.cast_ofNat_Int,Int.reduceEq,decide_true,decide_false,z2e,z9r,z0a z2f]
   rw[z2h]
   exact hT _
 | @cmp o s _ h hs=>
   have hp:=q1h (ss:=[s,s]) (s:=s) (t:= .no) (by simp) (by simp)
   have hp2:=x8f hs
   rw[List.map_cons,List.map_cons,List.map_nil,nat] at hp
   rw[nat] at hp2
   rcases h with rfl | rfl
   all_goals
    simp only[go_sem,z0,z1,↓reduceIte,q1f,hB,eNode,nat,bare,Int.cast_ofNat_Int,Int.reduceEq,decide_true,decide_false,z2e,z0a hp,z0a hp2,z0a z2f]
    rw[z2h]
    exact hT _
 | @add k s _ h hs=>
   have hp:=q1h (ss:=List.replicate k s) (s:=s) (t:= .no) k6j hl
   have hp2:=x8f hs
   have e1:∀ h',z1t h' 1 (.sl ((List.replicate k s).map nat) .no) (.int .i64 0)=some (.iptr [.int .i64 (s:Int)] 0,h'):=fun h'=>k3f h
   rw[show nat s= .int .i64 (s:Int) from rfl] at hp hp2
   have hX:idsL ((List.replicate k s).map nat)=[]:=q4c
   generalize (List.replicate k s).map nat=X at hp e1 hX
   simp only[go_sem,z0,z1,↓reduceIte,q1f,hB,z1y,eNode,nat,bare,Int.cast_ofNat_Int,Int.reduceEq,decide_true,decide_false,e1,z0a hp,z0a hp2,z0a z2f]
   refine⟨by simp[z1r,apart,z0q,z1l,z1v,AOp.isCall,hB,AV.ids,hX], ?_⟩
   rw[z2h]
   exact hT _
 | @mul s m _ hs hm=>
   have hp:=q1h (ss:=[s,s]) (s:=s) (t:= .no) (by simp) (by simp)
   have hp2:=x8f hs
   rw[List.map_cons,List.map_cons,List.map_nil,nat] at hp
   rw[nat] at hp2
   simp only[go_sem,z0,z1,↓reduceIte,q1f,hB,z1y,eNode,nat,bare,Int.cast_ofNat_Int,Int.reduceEq,decide_true,decide_false,z2e,z0a hp,z0a hp2,z0a z2f]
   refine⟨by simp[z1r,apart,z0q,z1l,z1v,AOp.isCall,hB,AV.ids,idsL], ?_⟩
   rw[z2h]
   exact hT _
 | div h h1 h5=>
   rcases h with rfl | rfl
   all_goals
    simp only[go_sem,z0,z1,↓reduceIte,q1f,hB,eNode,nat,Int.cast_ofNat_Int,Int.reduceEq,decide_true,decide_false,z2e,z0a z2f]
    rw[z2h]
    exact hT _
 | select=>
   simp only[go_sem,z0,z1,↓reduceIte,q1f,hB,eNode,nat,bare,Int.cast_ofNat_Int,Int.reduceEq,decide_true,decide_false,z2e,z9r,z0a z2f]
   rw[z2h]
   exact hT _
 | store=>
   obtain⟨u,hu⟩:∃ u,∀ h:List AObj,slV h (some 1) (.sl [.int .i64 4, .int .i64 2, .int .i64 2] .no) (some (.int .i64 1)) none none=some (.sl [.int .i64 2, .int .i64 2] u,h):=⟨.no,fun h=>by simp[slV,z2l,z4n,z4e,AV.cells]⟩
   have hp:=q1h (ss:=[2,2]) (s:=2) (t:=u) (by simp) (by simp)
   rw[List.map_cons,List.map_cons,List.map_nil,nat,Int.cast_ofNat_Int] at hp
   simp only[go_sem,z0,z1,↓reduceIte,q1f,hB,eNode,nat,bare,Int.cast_ofNat_Int,Int.reduceEq,decide_true,decide_false,z2e,hu,z0a hp,z0a z2f]
   rw[z2h]
   exact hT _
 | const=>
   simp only[go_sem,z0,z1,↓reduceIte,q1f,hB,eNode,nat,bare,Int.cast_ofNat_Int,Int.reduceEq,decide_true,decide_false,z2e,z0a z2f]
   rw[z2h]
   exact hT _
structure Tr where
 s:Nat
 len:Nat
 dep:Nat
def z8p (F:List Tr):Nat:=(F.map (·.len)).sum
theorem w6k:z8p []=0:=rfl
theorem q4d {f:Tr} {F:List Tr}:z8p (f::F)=f.len + z8p F:=by simp[z8p]
theorem q8q {F G:List Tr}:z8p (F++G)=z8p F + z8p G:=by simp[z8p]
theorem j8f {F:List Tr} {j:Nat} (hj:j < F.length):z8p (F.take (j + 1))=z8p (F.take j) + F[j].len:=by
 rw[List.take_succ_eq_append_getElem hj,q8q]
 simp[z8p]
def z4a (i:Nat):List Tr→List Nat
 | []=>[]
 | f::F=>i::z4a (i + f.len) F
theorem z9s {i:Nat} {F:List Tr}:(z4a i F).length=F.length:=by
 induction F generalizing i with
 | nil=>rfl
 | cons f F ih=>simp[z4a,ih]
theorem q4e {i:Nat} {F G:List Tr}:z4a i (F++G)=z4a i F++z4a (i + z8p F) G:=by
 induction F generalizing i with
 | nil=>rfl
 | cons f F ih=>simp only[List.cons_append,z4a,ih,q4d,Nat.add_assoc]
theorem j2s {i j:Nat} {F:List Tr} (hj:j < F.length):(z4a i F)[j]? =some (i + z8p (F.take j)):=by
 induction F generalizing i j with
 | nil=>simp at hj
 | cons f F ih=>
   cases j with
   | zero=>simp[z4a,z8p]
   | succ j=>
     simp only[z4a,List.getElem?_cons_succ,List.take_succ_cons,q4d]
     rw[ih (by simpa using hj),Nat.add_assoc]
structure Pt where
 sort:Nat
 depth:Nat
 fin:Nat
def ePt (p:Pt):AV:= .agg [.int .i64 (p.sort:Int), .int .i64 (p.depth:Int), .int .i64 (p.fin:Int)]
def PartsOk (P:List Pt) (i:Nat) (F:List Tr):Prop:=∀ j f,F[j]? =some f→P[i + z8p (F.take j)]? =some ⟨f.s,f.dep,i + z8p (F.take j) + f.len⟩
theorem PartsOk.nil {P:List Pt} {i:Nat}:PartsOk P i []:=fun j f h=>by simp at h
theorem PartsOk.node {P:List Pt} {i:Nat} {K G:List Tr} {s dep:Nat} (h:PartsOk P (i + 1) (K++G)) (hi:i < P.length):PartsOk (P.set i ⟨s,dep,i + (1 + z8p K)⟩) i (⟨s,1 + z8p K,dep⟩::G):=by
 intro j f hj
 cases j with
 | zero=>
   simp at hj
   subst hj
   simp[z8p,hi]
 | succ j=>
   simp only[List.getElem?_cons_succ] at hj
   have:=h (K.length + j) f (by rw[List.getElem?_append_right (by omega)];simpa using hj)
   rw[List.take_append,List.take_of_length_le (by omega),q8q,show K.length + j - K.length=j by omega] at this
   simp only[List.take_succ_cons,q4d]
   rw[List.getElem?_set_ne (by omega)]
   rw[show i + (1 + z8p K + z8p (G.take j))=i + 1 + (z8p K + z8p (G.take j)) by omega]
   exact this
theorem NodeOk.pos {V:List Var} {n:Node} {ss:List Nat} {s:Nat} {ks:Term} (hn:NodeOk V n ss s ks) (hV:∀ v∈V,v∈z0o):1≤s∧s≤4:=by
 cases hn with
 | var h=>exact q4b (hV _ h)
 | cmp h hs=>omega
 | add h hs=>omega
 | mul hs hn=>omega
 | ite h1 h2=>omega
 | eq h1 h2=>omega
 | _=>omega
theorem NodeOk.mul_num {V:List Var} {n:Node} {ss:List Nat} {s:Nat} {ks:Term} (hn:NodeOk V n ss s ks) (h:n.op=15):∃ m r,ks=m::r∧m.op=3:=by
 cases hn with
 | mul hs hm=>exact⟨_,_,rfl,hm⟩
 | bool h'=>exact absurd h (by simp[bare];omega)
 | andor h'=>exact absurd h (by simp[bare];omega)
 | cmp h' _=>exact absurd h (by simp[bare];omega)
 | div h' _ _=>exact absurd h (by simp;omega)
 | _=>simp[bare] at h
def j8g (B i:Nat) (F:List Tr) (r:AV) (o:AObj):Prop:=(F=[]∧r= .sl [] .nil)∨(F≠[]∧∃ g,r= .ob (B + 9) g 0 F.length∧o= .blk g ((z4a i F).reverse.map nat) true true 0)
def z7c (D:List AObj) (B:Nat) (t:Term) (gP gV g2:Nat) (P:List Pt) (o3 o4 o5 o6 o7 o8 o9:AObj):List AObj:=
 D++[.blk gP (P.map ePt) true false 0, .blk gV [.agg [z0g t, .ob (B + 0) gP 0 t.length]] false false 0, .blk g2 [.ptr (B + 1) gV 0 0] false false 0,o3,o4,o5,o6,o7,o8,o9]
def j0h (D:List AObj) (B:Nat) (t:Term) (gP gV g2:Nat) (i:Nat) (F:List Tr) (q:St):Prop:=
 ∃ P o3 o4 o5 o6 o7 o8 o9,P.length=t.length∧PartsOk P i F∧q.ts 0=z0g t∧q.ts 4= .ptr (B + 2) g2 0 0∧q.ts 6= .int .i64 ((i:Int) - 1)∧j8g B i F (q.ts 5) o9∧q.h=z7c D B t gP gV g2 P o3 o4 o5 o6 o7 o8 o9
theorem x8g {D:List AObj} {B:Nat} {t:Term} {gP gV g2 i:Nat} {K G:List Tr} {r:AV} {o:AObj} (hB:D.length=B) (hr:j8g B (i + 1) (K++G) r o) (hl:(K++G).length≤2 ^ 20):
  (∀ h,k4n h .sl r=some (.int .i64 ((K++G).length:Int),h))∧
  ∃ kv rv:AV,(∀ P o3 o4 o5 o6 o7 o8,slV (z7c D B t gP gV g2 P o3 o4 o5 o6 o7 o8 o) (some 1) r (some (.int .i64 (G.length:Int))) none none=some (kv,z7c D B t gP gV g2 P o3 o4 o5 o6 o7 o8 o))∧
    (∀ P o3 o4 o5 o6 o7 o8,slV (z7c D B t gP gV g2 P o3 o4 o5 o6 o7 o8 o) (some 1) r none (some (.int .i64 (G.length:Int))) none=some (rv,z7c D B t gP gV g2 P o3 o4 o5 o6 o7 o8 o))∧
    z6k kv=some K.length∧
    (∀ j P o3 o4 o5 o6 o7 o8,j < K.length→q5h (z7c D B t gP gV g2 P o3 o4 o5 o6 o7 o8 o) kv (K.length - 1 - j)=some (nat (i + 1 + z8p (K.take j))))∧
    (∀ (f:Tr) P o3 o4 o5 o6 o7 g8 gen,f.len=1 + z8p K→z1d (z7c D B t gP gV g2 P o3 o4 o5 o6 o7 (.blk g8 [nat i] true false 0) o) (B + 9) gen 1 8 true rv (.ob (B + 8) g8 0 1)=some (.ob (B + 9) gen 0 (G.length + 1),z7c D B t gP gV g2 P o3 o4 o5 o6 o7 (.blk g8 [nat i] true false 0) (.blk gen ((z4a i (f::G)).reverse.map nat) true true 0))):=by
 have hsrc:∀ P o3 o4 o5 o6 o7 g8,z5g (z7c D B t gP gV g2 P o3 o4 o5 o6 o7 (.blk g8 [nat i] true false 0) o) (.ob (B + 8) g8 0 1)=some [nat i]:=fun P o3 o4 o5 o6 o7 g8=>
  q0j (k:=8) (es:=[nat i]) (w:=false) hB rfl rfl
 rcases hr with ⟨hF,rfl⟩ | ⟨hF,g,rfl,rfl⟩
 ·have hK:K=[]:=(List.append_eq_nil_iff.1 hF).1
  have hG:G=[]:=(List.append_eq_nil_iff.1 hF).2
  subst hK;subst hG
  refine⟨fun h=>rfl, .sl [] .nil, .sl [] .nil,fun _ _ _ _ _ _ _=>rfl,fun _ _ _ _ _ _ _=>rfl,rfl,fun j _ _ _ _ _ _ _ hj=>by simp at hj,fun f P o3 o4 o5 o6 o7 g8 gen hf=> ?_⟩
  unfold z1d
  rw[hsrc]
  simp[z0u,nat,AV.def?,AV.cells,AV.one,z0z,z7c,z5j hB,z4a]
 ·have hN:(K++G).length=K.length + G.length:=List.length_append
  have hgr:(z7c D B t gP gV g2 [] .dead .dead .dead .dead .dead .dead (.blk g ((z4a (i + 1) (K++G)).reverse.map nat) true true 0)).length=B + 10:=by simp[z7c,hB]
  have hblk:∀ P o3 o4 o5 o6 o7 o8,z2a (z7c D B t gP gV g2 P o3 o4 o5 o6 o7 o8 (.blk g ((z4a (i + 1) (K++G)).reverse.map nat) true true 0)) (B + 9) g=some ((z4a (i + 1) (K++G)).reverse.map nat,true,true,0):=fun P o3 o4 o5 o6 o7 o8=>by
   unfold z7c
   rw[z7b hB]
   simp[z2a]
  have hlen:((z4a (i + 1) (K++G)).reverse.map nat).length=(K++G).length:=by simp[z9s]
  have hhead:z4e 1 ((z4a (i + 1) (K++G)).reverse.map nat)=true:=by
   cases (z4a (i + 1) (K++G)).reverse <;> rfl
  have hall:z0u 1 ((z4a (i + 1) (K++G)).reverse.map nat)=true:=z4k
  refine⟨fun h=>rfl, .ob (B + 9) g G.length K.length, .ob (B + 9) g 0 G.length,fun P o3 o4 o5 o6 o7 o8=> ?_,fun P o3 o4 o5 o6 o7 o8=> ?_, ?_,fun j P o3 o4 o5 o6 o7 o8 hj=> ?_,fun f P o3 o4 o5 o6 o7 g8 gen hf=> ?_⟩
  ·simp only[slV,z2l,hblk,z4n,Int.natCast_nonneg,if_true,Int.toNat_natCast]
   rw[if_pos ⟨by omega,hhead,by omega,by omega⟩,Option.map_some]
   rw[Nat.zero_add,show (K++G).length - G.length=K.length by omega]
  ·simp only[slV,z2l,hblk,z4n,Int.natCast_nonneg,if_true,Int.toNat_natCast]
   rw[if_pos ⟨by omega,hhead,by omega,by omega⟩,Option.map_some]
   rfl
  ·simp only[z6k]
   rw[if_pos (by omega)]
  ·unfold q5h
   simp only[z5g,q5y,hblk]
   rw[if_pos (by omega)]
   have h1:(((List.map nat (z4a (i + 1) (K++G)).reverse).drop G.length).take K.length)[K.length - 1 - j]? =some (nat (i + 1 + z8p (K.take j))):=by
    rw[List.getElem?_take_of_lt (by omega),List.getElem?_drop,List.getElem?_map,List.getElem?_reverse (by rw[z9s];omega),z9s,show (K++G).length - 1 - (G.length + (K.length - 1 - j))=j by omega,q4e,List.getElem?_append_left (by rw[z9s];omega),j2s hj]
    rfl
   simp only[h1]
   rfl
  ·have hGK:(List.map nat (z4a (i + 1) (K++G)).reverse).take G.length=(z4a (i + 1 + z8p K) G).reverse.map nat:=by
    rw[←List.map_take,q4e,List.reverse_append,List.take_left' (by simp[z9s])]
   have hnew:(z4a i (f::G)).reverse.map nat=(z4a (i + 1 + z8p K) G).reverse.map nat++[nat i]:=by
    rw[z4a,hf,List.reverse_cons,List.map_append,show i + (1 + z8p K)=i + 1 + z8p K by omega]
    rfl
   unfold z1d
   rw[hsrc]
   have hpos:0 < (K++G).length:=List.length_pos_iff.2 hF
   have hgt:¬ (G.length + 1) * (8 + 1) > z0z:=by unfold z0z;omega
   have ha1:z0u 1 [nat i]=true:=rfl
   simp only[ha1,hblk,hall,List.length_singleton,decide_eq_true_eq,hgt,Bool.not_true,Bool.false_eq_true,if_false,beq_self_eq_true,decide_false,Bool.or_self,List.isEmpty_cons,if_true,Nat.zero_le,hlen,true_and]
   rw[if_pos ⟨by omega,hpos⟩,hGK,←hnew]
   congr 2
   simp only[z7c,z5j hB,List.set_cons_succ,List.set_cons_zero]
section
variable {h:List AObj} {base g k:Nat} {ts:Tmps} {z:AV} {dst:Option Nat} {os:List AOper} {clk:Nat} {ks:List Kf} {Q:Post}
def bwV (h:List AObj) (f:Nat) (v:AV):Option (AV×List AObj):=if (z6k v).isSome then some (.bwd f v,h) else none
theorem w4v {f n:Nat} {v:AV} (hr:z6k v=some n):bwV h f v=some (.bwd f v,h):=by simp[bwV,hr]
theorem j2t {f:Nat} {x:AOpd}:O Gam base .plain g (⟨dst, .backward f x,none⟩::os) ⟨ts,h,clk⟩ ks Q=PP Gam base (bwV h f (x.ev ts)) dst g os ts clk ks Q:=by
 rw[q2r rfl];rfl
def y5n (h:List AObj) (s g:Nat) (z:AV) (v:AV):Option (AV×List AObj):=
 if !z.def? then none else match z9f h [v] with
  | some vs=>(z4y z.cells.length [z] [0] vs).map fun es=>(.ob s g 0 1,(freezeAll h (z4x [v])).set s (.blk g es true false 0))
  | none=>none
theorem k3g {s:Nat} {K J:IntKind} {a b:Int}:y5n h s g (.int K a) (.int J b)=some (.ob s g 0 1,h.set s (.blk g [.int J b] true false 0)):=(rfl)
theorem y2u {x:AOpd}:O Gam base .plain g (⟨dst, .buildSlice k true z 1 [(0,x)],none⟩::os) ⟨ts,h,clk⟩ ks Q=PP Gam base (y5n h (base + k) g z (x.ev ts)) dst g os ts clk ks Q:=by
 rw[q2r rfl]
 congr 1
end
attribute [go_sem] j2t y2u k3g
theorem q6l {D:List AObj} {B gP n i:Nat} {P:List Pt} {L:List AObj} {p:Pt} (hB:D.length=B) (hi:P[i]? =some p) (hn:P.length=n):z1t (D++ .blk gP (P.map ePt) true false 0::L) 3 (.ob (B + 0) gP 0 n) (.int .i64 (i:Int))=some (.ptr (B + 0) gP i 0,D++ .blk gP (P.map ePt) true false 0::L):=by
 have hb:z2a (D++ .blk gP (P.map ePt) true false 0::L) (B + 0) gP=some (P.map ePt,true,false,0):=by rw[z7b hB];simp[z2a]
 have hlt:i < n:=by
  rw[List.getElem?_eq_some_iff] at hi
  have:=hi.1
  omega
 have h1:(P.map ePt)[0 + i]? =some (ePt p):=by rw[Nat.zero_add,List.getElem?_map,hi];rfl
 simp only[z1t,Int.natCast_nonneg,if_true,hb,Int.toNat_natCast,h1]
 rw[if_pos ⟨hlt,rfl⟩,Nat.zero_add]
theorem x2x {P:List Pt} {i:Nat} {p:Pt} (hi:P[i]? =some p):(P.map ePt)[i]? =some (.agg [.int .i64 (p.sort:Int), .int .i64 (p.depth:Int), .int .i64 (p.fin:Int)]):=by rw[List.getElem?_map,hi];rfl
theorem z2o {t:Term} {i:Nat} {n:Node} {h:List AObj} {u:Tip} {k:IntKind} (hi:t[i]? =some n):z1t h 5 (.sl (t.map eNode) u) (.int k (i:Int))=some (.iptr [.int .i64 (n.op:Int), .int .i64 (n.sort:Int), .str n.name, .str n.num, .int .i64 (n.kids:Int)] 0,h):=by
 have hlt:i < t.length:=by
  rw[List.getElem?_eq_some_iff] at hi
  exact hi.1
 have h1:t[i]=n:=by
  rw[List.getElem?_eq_some_iff] at hi
  exact hi.2
 rw[z3k (f:=eNode) hlt (cs:=[.int .i64 (n.op:Int), .int .i64 (n.sort:Int), .str n.name, .str n.num, .int .i64 (n.kids:Int)]) (esz:=5) (by rw[h1];rfl) rfl]
def w4w:ACode:=(.region 1 [⟨(some 12), .move (.tmp 66),none⟩] [])
def w4x:ACode:=(.block 3 (.seq (.region 12 [⟨(some 67), .load none (.tmp 10),none⟩,⟨(some 68), .load none (.tmp 4),none⟩,⟨(some 69), .nilCheck (.tmp 68),none⟩,⟨(some 70), .fieldAddr (.tmp 69) 1,none⟩,⟨(some 71), .load none (.tmp 70),none⟩,⟨(some 72), .move (.tmp 12),none⟩,⟨(some 73), .indexAddr none 3 (.tmp 71) (.tmp 72),none⟩,⟨(some 74), .fieldAddr (.tmp 73) 0,none⟩,⟨(some 75), .load none (.tmp 74),none⟩,⟨(some 76), .buildSlice 6 false (.int .i64 0) 1 [(0,(.tmp 75))],none⟩,⟨(some 77), .append 7 1 8 false (.tmp 67) (.tmp 76),none⟩,⟨none, .store 1 (.tmp 10) (.tmp 77),none⟩] [(0,9)]) (.seq (.region 14 [⟨(some 78), .fieldAddr (.tmp 9) 1,none⟩,⟨(some 79), .load none (.tmp 78),none⟩,⟨(some 80), .load none (.tmp 4),none⟩,⟨(some 81), .nilCheck (.tmp 80),none⟩,⟨(some 82), .fieldAddr (.tmp 81) 1,none⟩,⟨(some 83), .load none (.tmp 82),none⟩,⟨(some 84), .move (.tmp 12),none⟩,⟨(some 85), .indexAddr none 3 (.tmp 83) (.tmp 84),none⟩,⟨(some 86), .fieldAddr (.tmp 85) 1,none⟩,⟨(some 87), .load none (.tmp 86),none⟩,⟨(some 88), .binOp .add (.one .int) (.tmp 87) (.const (.int .i64 1)),none⟩,⟨(some 89), .minmax true (.tmp 79) (.tmp 88),none⟩,⟨(some 90), .fieldAddr (.tmp 9) 1,none⟩,⟨none, .store 1 (.tmp 90) (.tmp 89),none⟩] []) (.region 10 [⟨(some 91), .load none (.tmp 4),none⟩,⟨(some 92), .nilCheck (.tmp 91),none⟩,⟨(some 93), .fieldAddr (.tmp 92) 1,none⟩,⟨(some 94), .load none (.tmp 93),none⟩,⟨(some 95), .move (.tmp 12),none⟩,⟨(some 96), .indexAddr none 3 (.tmp 94) (.tmp 95),none⟩,⟨(some 97), .fieldAddr (.tmp 96) 2,none⟩,⟨(some 98), .load none (.tmp 97),none⟩,⟨(some 99), .fieldAddr (.tmp 9) 2,none⟩,⟨none, .store 1 (.tmp 99) (.tmp 98),none⟩] []))))
theorem j2u {Kk:List Tr} {j:Nat} (hj:j < Kk.length):((Kk.take (j + 1)).map (·.s)).map nat=((Kk.take j).map (·.s)).map nat++[.int .i64 (Kk[j].s:Int)]:=by
 rw[List.take_succ_eq_append_getElem hj,List.map_append,List.map_append]
 rfl
theorem j8h {D:List AObj} {B:Nat} {t:Term} {gP gV g2 g3 g4 g5 i d clk:Nat} {N:AV} {P:List Pt} {Kk G:List Tr} {kv:AV} {o6 o7 o8 o9:AObj} {ts:Tmps} {ks:List Kf} {Q:Post} (hB:D.length=B) (hPl:P.length=t.length) (hPo:PartsOk P (i + 1) (Kk++G)) (hKd:∀ f∈Kk,f.dep≤d) (hd:d≤1000) (hKl:Kk.length≤2 ^ 20)
  (hrow:z6k kv=some Kk.length) (helem:∀ j (P:List Pt) o3 o4 o5 o6 o7 o8,j < Kk.length→q5h (D++[.blk gP (P.map ePt) true false 0, .blk gV [.agg [z0g t, .ob (B + 0) gP 0 t.length]] false false 0, .blk g2 [.ptr (B + 1) gV 0 0] false false 0,o3,o4,o5,o6,o7,o8,o9]) kv (Kk.length - 1 - j)=some (nat (i + 1 + z8p (Kk.take j))))
  (h4:ts 4= .ptr (B + 2) g2 0 0) (h9:ts 9= .ptr (B + 4) g4 0 0) (h10:ts 10= .ptr (B + 5) g5 0 0) (h64:ts 64= .bwd 226 kv)
  (hQ:∀ (dep:Nat) (u:Tip) (o6 o7:AObj) (clk':Nat),1≤dep→dep≤d + 1→K Gam B .skip ks ⟨ts,D++[.blk gP (P.map ePt) true false 0, .blk gV [.agg [z0g t, .ob (B + 0) gP 0 t.length]] false false 0, .blk g2 [.ptr (B + 1) gV 0 0] false false 0, .blk g3 [N] false false 0, .blk g4 [.agg [.int .i64 0, .int .i64 (dep:Int), .int .i64 ((i + 1 + z8p Kk:Nat):Int)]] false false 0, .blk g5 [.sl ((Kk.map (·.s)).map nat) u] false false 0,o6,o7,o8,o9],clk'⟩ Q):
  K Gam B (.rangeB (.tmp 64) 65 66 w4w w4x) ks ⟨ts,D++[.blk gP (P.map ePt) true false 0, .blk gV [.agg [z0g t, .ob (B + 0) gP 0 t.length]] false false 0, .blk g2 [.ptr (B + 1) gV 0 0] false false 0, .blk g3 [N] false false 0, .blk g4 [.agg [.int .i64 0, .int .i64 1, .int .i64 ((i + 1:Nat):Int)]] false false 0, .blk g5 [.sl [] .nil] false false 0,o6,o7,o8,o9],clk⟩ Q:=by
 refine k0s (f:=226) (n:=Kk.length) (v:=kv) (by simpa [AOpd.ev] using h64) hrow rfl (fun m h _=>∃ (dep:Nat) (u:Tip) (o6 o7:AObj),1≤dep∧dep≤d + 1∧h=D++[.blk gP (P.map ePt) true false 0, .blk gV [.agg [z0g t, .ob (B + 0) gP 0 t.length]] false false 0, .blk g2 [.ptr (B + 1) gV 0 0] false false 0, .blk g3 [N] false false 0, .blk g4 [.agg [.int .i64 0, .int .i64 (dep:Int), .int .i64 ((i + 1 + z8p (Kk.take (Kk.length - m)):Nat):Int)]] false false 0, .blk g5 [.sl (((Kk.take (Kk.length - m)).map (·.s)).map nat) u] false false 0,o6,o7,o8,o9]∧q3t B 7 o7 u 1) ?_ ?_ ?_
 ·refine⟨1, .nil,o6,o7,Nat.le_refl _,by omega, ?_, .inl rfl⟩
  rw[Nat.sub_self,List.take_zero]
  rfl
 ·rintro m h c Pq hm ⟨dep,u,o6,o7,hd1,hd2,rfl,hu⟩ hfin
  have hj:Kk.length - (m + 1) < Kk.length:=by omega
  have hjm:Kk.length - m=Kk.length - (m + 1) + 1:=by omega
  have hel:=helem (Kk.length - (m + 1)) P (.blk g3 [N] false false 0) (.blk g4 [.agg [.int .i64 0, .int .i64 (dep:Int), .int .i64 ((i + 1 + z8p (Kk.take (Kk.length - (m + 1))):Nat):Int)]] false false 0) (.blk g5 [.sl (((Kk.take (Kk.length - (m + 1))).map (·.s)).map nat) u] false false 0) o6 o7 o8 hj
  rw[show Kk.length - 1 - (Kk.length - (m + 1))=m by omega] at hel
  refine⟨_,hel, ?_⟩
  have hpo:=hPo (Kk.length - (m + 1)) Kk[Kk.length - (m + 1)] (by rw[List.getElem?_append_left hj];simp[hj])
  have htk:(Kk++G).take (Kk.length - (m + 1))=Kk.take (Kk.length - (m + 1)):=List.take_append_of_le_length (by omega)
  rw[htk] at hpo
  have hfd:=hKd _ (List.getElem_mem hj)
  have hls:=j8f hj
  have hss:=j2u hj
  rw[←hjm] at hls hss
  generalize Kk[Kk.length - (m + 1)]=f at hpo hfd hls hss
  generalize hst:i + 1 + z8p (Kk.take (Kk.length - (m + 1)))=st at hpo
  have hget:=x2x hpo
  dsimp only at hget
  have hix:∀ L,z1t (D++ .blk gP (P.map ePt) true false 0::L) 3 (.ob (B + 0) gP 0 t.length) (.int .i64 (st:Int))=some (.ptr (B + 0) gP st 0,D++ .blk gP (P.map ePt) true false 0::L):=fun L=>q6l hB hpo hPl
  have e1:IntKind.i64.wrap ((f.dep:Int) + 1)=((f.dep + 1:Nat):Int):=z0c (by omega) (by omega)
  have e2:(if ((f.dep + 1:Nat):Int) > (dep:Int) then ((f.dep + 1:Nat):Int) else (dep:Int))=((max dep (f.dep + 1):Nat):Int):=by split <;> omega
  simp only[go_sem,z0,z1,z2,z3,reduceCtorEq,↓reduceIte,w4w,w4x,z1y,h4,h9,h10,hB,nat,hix,hget]
  rw[show [AV.int .i64 (f.s:Int)]=[f.s].map nat from rfl,z0s hB rfl hu z4k z4k (by simp only[List.length_map,List.length_singleton,List.length_take];omega)]
  have hst2:st + f.len=i + 1 + z8p (Kk.take (Kk.length - m)):=by omega
  simp only[go_sem,z0,z1,z2,z3,reduceCtorEq,↓reduceIte,h4,h9,h10,hB,nat,hix,hget,e1,e2,←hss,hst2]
  exact⟨by simp[z1r,apart,z0q,z1l,z1v,AOp.isCall,hB],hfin _ ⟨max dep (f.dep + 1),_,_,_,by omega,by omega,rfl, .inr (.inr ⟨_,rfl,rfl⟩)⟩⟩
 ·rintro h c ⟨dep,u,o6,o7,hd1,hd2,rfl,hu⟩
  rw[Nat.sub_zero,List.take_length]
  exact hQ dep u o6 o7 c hd1 hd2
theorem j2v {D L:List AObj} {B gP i:Nat} {P:List Pt} {p q:Pt} (hB:D.length=B) (hi:P[i]? =some q):z8x (D++ .blk gP (P.map ePt) true false 0::L) 3 (.agg [.int .i64 (p.sort:Int), .int .i64 (p.depth:Int), .int .i64 (p.fin:Int)]) (.ptr (B + 0) gP i 0)=some (.undef,D++ .blk gP ((P.set i p).map ePt) true false 0::L):=by
 have hb:z2a (D++ .blk gP (P.map ePt) true false 0::L) (B + 0) gP=some (P.map ePt,true,false,0):=by rw[z7b hB];simp[z2a]
 have hp:∀ h:List AObj,pub h (.agg [.int .i64 (p.sort:Int), .int .i64 (p.depth:Int), .int .i64 (p.fin:Int)])=some (.agg [.int .i64 (p.sort:Int), .int .i64 (p.depth:Int), .int .i64 (p.fin:Int)],h):=fun h=>rfl
 have hg:(P.map ePt)[i]? =some (ePt q):=by rw[List.getElem?_map,hi];rfl
 rw[q1w,hb]
 simp only[hg,if_true,hp]
 rw[if_pos ⟨rfl,rfl,rfl,fun _=>⟨Nat.zero_le _,rfl⟩⟩]
 have:q0n (ePt q).cells 0 (AV.agg [.int .i64 (p.sort:Int), .int .i64 (p.depth:Int), .int .i64 (p.fin:Int)]).cells=some [.int .i64 (p.sort:Int), .int .i64 (p.depth:Int), .int .i64 (p.fin:Int)]:=rfl
 rw[this,Option.map_some,z5j hB,List.map_set]
 rfl
theorem j8i {D:List AObj} {B:Nat} {t:Term} {gP gV g2:Nat} {V:List Var} {n:Node} {ss:List Nat} {s d:Nat} {ksT pre post:Term} {Kk G:List Tr} {st:St} {ks:List Kf} {Q:Post} (hB:D.length=B) (hn:NodeOk V n ss s ksT) (hV:∀ v∈V,v∈z0o) (hk:n.kids=ss.length) (ht:t=pre++n::(ksT++post)) (hKs:Kk.map (·.s)=ss) (hKd:∀ f∈Kk,f.dep≤d) (hd:d≤1000) (hN:(Kk++G).length≤2 ^ 20) (htl:t.length≤2 ^ 20)
  (hst:j0h D B t gP gV g2 (pre.length + 1) (Kk++G) st)
  (hQ:∀ st' dep,dep≤d + 1→j0h D B t gP gV g2 pre.length (⟨s,1 + z8p Kk,dep⟩::G) st'→K Gam B (.loop q5t) ks st' Q):K Gam B (.loop q5t) ks st Q:=by
 obtain⟨ts,h,clk⟩:=st
 obtain⟨P,o3,o4,o5,o6,o7,o8,o9,hPl,hPo,h0,h4,h6,hr,rfl⟩:=hst
 dsimp only at h0 h4 h6 hr
 generalize hip:pre.length=i at *
 have hKlen:Kk.length=n.kids:=by rw[hk,←hKs,List.length_map]
 have hNl:(Kk++G).length=n.kids + G.length:=by rw[List.length_append,hKlen]
 have hss:ss.length≤2 ^ 20:=by omega
 have hti:t[i]? =some n:=by
  rw[ht,List.getElem?_append_right (by omega),show i - pre.length=0 by omega]
  rfl
 have hilt:i < t.length:=by
  rw[List.getElem?_eq_some_iff] at hti
  exact hti.1
 obtain⟨hlen,kv,rv,hkv,hrv,hrow,helem,happ⟩:=x8g (t:=t) (gP:=gP) (gV:=gV) (g2:=g2) hB hr hN
 simp only[z7c] at hkv hrv helem happ⊢
 generalize h5:ts 5=r5 at *
 have e0:((i + 1:Nat):Int) - 1=(i:Int):=by omega
 rw[e0] at h6
 have e1:decide ((0:Int)≤(i:Int))=true:=by rw[decide_eq_true_iff];omega
 have e2:decide ((n.kids:Int) < 0)=false:=by rw[decide_eq_false_iff_not];omega
 have e3:decide (((Kk++G).length:Int) < (n.kids:Int))=false:=by rw[decide_eq_false_iff_not];omega
 have e4:IntKind.i64.wrap (((Kk++G).length:Int) - (n.kids:Int))=(G.length:Int):=by rw[z0c (by omega) (by omega)];omega
 have e5:IntKind.i64.wrap ((i:Int) + 1)=((i + 1:Nat):Int):=z0c (by omega) (by omega)
 have e6:IntKind.i64.wrap ((i:Int) - 1)=(i:Int) - 1:=z0c (by omega) (by omega)
 have h249:Pure Gam 215 [.agg [.int .i64 (n.op:Int), .int .i64 (n.sort:Int), .str n.name, .str n.num, .int .i64 (n.kids:Int)]] (.bool true):=v3d hn hV
 have h250:Pure Gam 216 [.int .i64 (n.op:Int), .int .i64 (n.kids:Int)] (.bool true):=v3e hn
 rw[z0g] at h0
 refine z2v ?_
 simp only[go_sem,z0,z1,z2,z3,reduceCtorEq,↓reduceIte,q5t,h0,h4,h5,h6,hB,e1,z2o hti,e2,hlen,e3,z0a h249,z0a h250,Bool.not_true,e4,e5,hkv,w4v hrow]
 refine j8h (P:=P) hB hPl hPo hKd hd (by omega) hrow helem (by simp[z0b,h4]) (by simp[z0b]) (by simp[z0b]) (by simp[z0b]) ?_
 intro dep u o6 o7 clk' hd1 hd2
 have h252:∀ u,Pure Gam 218 [.agg [.int .i64 (n.op:Int), .int .i64 (n.sort:Int), .str n.name, .str n.num, .int .i64 (n.kids:Int)], .sl (ss.map nat) u] (.int .i64 (s:Int)):=fun u=>v3f hn hss
 have hs:=hn.pos hV
 have e7:decide ((s:Int)=0)=false:=by rw[decide_eq_false_iff_not];omega
 obtain⟨q,hq⟩:∃ q,P[i]? =some q:=⟨P[i],by simp[hPl,hilt]⟩
 have happ':=fun P o3 o4 o5 o6 o7 g8 gen=>happ ⟨s,1 + z8p Kk,dep⟩ P o3 o4 o5 o6 o7 g8 gen rfl
 have hPo':=PartsOk.node (s:=s) (dep:=dep) hPo (by omega)
 have hst:=fun L=>j2v (L:=L) (B:=B) (gP:=gP) (p:=⟨s,dep,i + 1 + z8p Kk⟩) hB hq
 simp only at hst
 simp only[nat] at happ'
 have fin:∀ (ts':Tmps) (P':List Pt) (o3 o4 o5 o6 o7 o8:AObj) (gen clk':Nat),P'=P.set i ⟨s,dep,i + 1 + z8p Kk⟩→ts' 0= .sl (t.map eNode) .no→ts' 4= .ptr (B + 2) g2 0 0→ts' 5= .ob (B + 9) gen 0 (G.length + 1)→ts' 6= .int .i64 ((i:Int) - 1)→
   K Gam B (.loop q5t) ks ⟨ts',z7c D B t gP gV g2 P' o3 o4 o5 o6 o7 o8 (.blk gen ((z4a i (⟨s,1 + z8p Kk,dep⟩::G)).reverse.map nat) true true 0),clk'⟩ Q:=by
  intro ts' P' o3 o4 o5 o6 o7 o8 gen clk' hP' q0 q4 q5 q6
  refine hQ _ dep hd2 ⟨P',_,_,_,_,_,_,_,by rw[hP',List.length_set];exact hPl, ?_,q0,q4,q6, .inr ⟨by simp,gen,q5,rfl⟩,rfl⟩
  rw[hP',Nat.add_assoc]
  exact hPo'
 by_cases h15:n.op=15
 ·obtain⟨m,r,hmr,hm3⟩:=hn.mul_num h15
  have ht1:t[i + 1]? =some m:=by
   rw[ht,List.getElem?_append_right (by omega),show i + 1 - pre.length=1 by omega,hmr]
   rfl
  have f1:decide ((n.op:Int)=15)=true:=by rw[decide_eq_true_iff];omega
  have f2:decide ((m.op:Int)=3)=true:=by rw[decide_eq_true_iff];omega
  simp only[go_sem,z0,z1,z2,z3,reduceCtorEq,↓reduceIte,h0,h4,h5,h6,hB,hKs,z0a (h252 _),e7,f1,e5,z2o ht1,f2,Bool.not_true,q6l hB hq hPl,hst,hlen,e4,hrv,happ',e6]
  exact fin _ _ _ _ _ _ _ _ _ _ rfl (by simp[z0b,h0]) (by simp[z0b,h4]) (by simp[z0b]) (by simp[z0b])
 ·have f1:decide ((n.op:Int)=15)=false:=by rw[decide_eq_false_iff_not];omega
  simp only[go_sem,z0,z1,z2,z3,reduceCtorEq,↓reduceIte,h0,h4,h5,h6,hB,hKs,z0a (h252 _),e7,f1,q6l hB hq hPl,hst,hlen,e4,hrv,happ',e6]
  exact fin _ _ _ _ _ _ _ _ _ _ rfl (by simp[z0b,h0]) (by simp[z0b,h4]) (by simp[z0b]) (by simp[z0b])
def RVG (x:Option (List AV)) (R:AV→List AObj→Prop) (h:List AObj):Prop:=
 match x with
 | some vs=>(z1o vs).obs=[]∧R (z1o vs).cv h
 | none=>False
def y2v (rs:List ARes) (R:AV→List AObj→Prop):Post:=fun e s=>(∀ i,e≠ .exit i)∧RVG (z1j s.h s.ts rs) R s.h
theorem k3h {rs:List ARes} {R:AV→List AObj→Prop} {ts:Tmps} {h:List AObj} {c:Nat}:y2v rs R .ret ⟨ts,h,c⟩=RVG (z1j h ts rs) R h:=by simp[y2v]
theorem q4f {vs:List AV} {R:AV→List AObj→Prop} {h:List AObj} (ho:(z1o vs).obs=[]):RVG (some vs) R h=R (z1o vs).cv h:=by simp[RVG,ho]
attribute [go_sem] k3h
theorem q8r {f:Nat} {args az:List AV} {h:List AObj} {clk:Nat} {af:AFun} {Q:AV→List AObj→Nat→Prop} (hext:Gam.ext f=none) (hfn:Gam.fn f=some af) (hb:af.byref=[]) (ho:af.owned=false) (hobs:z4x args=[]) (has:cvL args=az) (hids:idsL az=[])
  (hw:∀ (D:List AObj) (B:Nat) (R:AV→List AObj→Prop),D.length=B→B=h.length→(∀ v L',(∃ i∈v.ids,B≤i)→(∀ c,Q v (h++L') c)→R v (D++L'))→K Gam B af.body [] ⟨z9h az,D++List.replicate af.nslots .dead,clk⟩ (y2v af.results R)):WC Gam f args h clk Q:=by
 obtain⟨k,e,s,he,hne,hend⟩:=hw (maskFrom [] 0 h) h.length (fun v h'=>(∃ i∈v.ids,h.length≤i)∧∀ c,Q v (h++h'.drop h.length) c) (z3v) rfl (fun v L' hi hq=>⟨hi,by
  rw[List.drop_left' z3v]
  exact hq⟩)
 have hp:z1f h af.byref 0 args=some az:=by rw[hb,z1k hobs,has]
 have hl:z0n af.byref 0 args=[]:=by rw[hb];exact z5b hobs
 unfold RVG at hend
 split at hend
 ·rename_i vs hr
  obtain⟨hob,⟨i,hi1,hi2⟩,hq⟩:=hend
  have hc:=q4s (h:=s.h) hob
  refine⟨k,(z1o vs).cv,h++s.h.drop h.length,s.clk, ?_,hq _⟩
  have hall:((z1o vs).cv.ids.all fun x=>decide (x < h.length))=false:=by
   rw[List.all_eq_false]
   exact⟨i,hi1,by simp;omega⟩
  unfold z5i z0i
  simp only[hext,hfn,hp,hl,freezeAll,hids,reach,he,ho,Bool.false_eq_true,if_false,hr,hc,hob,z5n,List.map_nil,List.flatten_nil,List.append_nil,ite_self]
  cases e with
  | exit i=>exact absurd rfl (hne i)
  | norm=>simp[hall]
  | ret=>simp[hall]
 ·exact hend.elim
theorem z6i {f base gg clk:Nat} {args:List AV} {h:List AObj} {dst:Option Nat} {os:List AOper} {ts:Tmps} {ks:List Kf} {Q:Post} (hw:WC Gam f args h clk fun v h' c=>O Gam base .plain (gg + 1) os ⟨z8n ts dst v,h',c⟩ ks Q):CK Gam base f args h clk .plain dst gg os ts ks Q:=hw
theorem x8h {D:List AObj} {B:Nat} {t:Term} {gP gV g2:Nat} {V:List Var} {ks:List Kf} {Q:Post} (hB:D.length=B) (hV:∀ v∈V,v∈z0o) (htl:t.length≤2 ^ 19) {ss:List Nat} {d:Nat} {u:Term} (h:WF V ss d u):∀ {pre post:Term} {G:List Tr} {st:St},d≤1000→t=pre++(u++post)→G.length≤post.length→j0h D B t gP gV g2 (pre.length + u.length) G st→
  (∀ st' Fu,Fu.map (·.s)=ss→z8p Fu=u.length→Fu.length≤u.length→(∀ f∈Fu,f.dep≤d)→j0h D B t gP gV g2 pre.length (Fu++G) st'→K Gam B (.loop q5t) ks st' Q)→K Gam B (.loop q5t) ks st Q:=by
 induction h with
 | nil=>
   intro pre post G st _ _ _ hst hQ
   exact hQ st [] rfl rfl (by simp) (by simp) (by simpa using hst)
 | @cons n ss ks' s d ss' rest h1 h2 h3 h4 ih1 ih2=>
   intro pre post G st hd ht hG hst hQ
   have e1:t=(pre++n::ks')++(rest++post):=by rw[ht];simp
   refine ih2 (pre:=pre++n::ks') (post:=post) hd e1 hG (by
    have e:pre.length + (n::(ks'++rest)).length=(pre++n::ks').length + rest.length:=by simp;omega
    rw[←e]
    exact hst) fun st1 Fr hr1 hr2 hr2' hr3 hr4=> ?_
   have e2:t=(pre++[n])++(ks'++(rest++post)):=by rw[ht];simp
   have hlen:=congrArg List.length ht
   simp only[List.length_append,List.length_cons] at hlen
   refine ih1 (pre:=pre++[n]) (post:=rest++post) (G:=Fr++G) (by omega) e2 (by simp only[List.length_append];omega) (by
    have e:(pre++n::ks').length=(pre++[n]).length + ks'.length:=by simp;omega
    rw[←e]
    exact hr4) fun st2 Fk hk1 hk2 hk2' hk3 hk4=> ?_
   refine j8i (t:=t) (pre:=pre) (post:=rest++post) (Kk:=Fk) (G:=Fr++G) hB h2 hV h3 (by rw[ht];simp) hk1 hk3 (by omega) (by simp only[List.length_append];omega) (by omega) (by simpa using hk4) fun st3 dep hd3 hst3=> ?_
   refine hQ st3 (⟨s,1 + z8p Fk,dep⟩::Fr) (by simp[hr1]) ?_ ?_ ?_ (by simpa using hst3)
   ·rw[q4d,hk2,hr2];simp;omega
   ·simp only[List.length_cons,List.length_append];omega
   ·intro f hf
    rw[List.mem_cons] at hf
    rcases hf with rfl | hf
    ·exact hd3
    ·exact hr3 f hf
theorem y2w {V:List Var} {s d:Nat} {t:Term} {u:Tip} {h:List AObj} {clk:Nat} {Q:AV→List AObj→Nat→Prop} (ht:WF V [s] d t) (hV:∀ v∈V,v∈z0o) (hl:t.length≤20000) (hd:d≤1000)
  (hQ:∀ gP gV g2 P dep o3 o4 o5 o6 o7 o8 o9 c,P.length=t.length→P[0]? =some ⟨s,dep,t.length⟩→dep≤d→Q (.tup [.ptr (h.length + 1) gV 0 0, .bool true]) (z7c h h.length t gP gV g2 P o3 o4 o5 o6 o7 o8 o9) c):WC Gam 209 [.sl (t.map eNode) u] h clk Q:=by
 refine q8r rfl y1o rfl rfl rfl (az:=[z0g t]) rfl (by simp[idsL,z2c]) fun D B R hB hBh hR=> ?_
 have hms:∀ h s g,msV h s g (.agg [.int .i64 0, .int .i64 0, .int .i64 0]) 24 (.int .i64 (t.length:Int)) (.int .i64 (t.length:Int))=some (.ob s g 0 t.length,h.set s (.blk g (List.replicate t.length (.agg [.int .i64 0, .int .i64 0, .int .i64 0])) true false 0)):=fun h s g=>q3x rfl (by omega)
 have hrep:List.replicate t.length (AV.agg [.int .i64 0, .int .i64 0, .int .i64 0])=(List.replicate t.length (⟨0,0,0⟩:Pt)).map ePt:=by rw[List.map_replicate];rfl
 have e0:IntKind.i64.wrap ((t.length:Int) - 1)=(t.length:Int) - 1:=z0c (by omega) (by omega)
 simp only[go_sem,z0,z1,z2,z3,reduceCtorEq,↓reduceIte,w3n,hB,z0g,List.length_map,hms,hrep,e0]
 refine x8h (pre:=[]) (post:=[]) (G:=[]) hB hV (by omega) ht hd (by simp) (by simp) ⟨List.replicate t.length ⟨0,0,0⟩,_,_,_,_,_,_,_,by simp,PartsOk.nil,by simp[z0b,z2m,z0g],by simp[z0b],by simp[z0b], .inl ⟨rfl,by simp[z0b]⟩,rfl⟩ ?_
 rintro ⟨ts,h',clk'⟩ Fu hF1 hF2 hF3 hF4 ⟨P,o3,o4,o5,o6,o7,o8,o9,hPl,hPo,h0,h4,h6,hr,rfl⟩
 dsimp only at h0 h4 h6 hr
 obtain⟨f,rfl⟩:∃ f,Fu=[f]:=by
  match Fu,hF1 with
  | [f],_=>exact⟨f,rfl⟩
 have hfs:f.s=s:=by simpa using hF1
 have hfl:f.len=t.length:=by simpa [z8p] using hF2
 rcases hr with ⟨hbad,_⟩ | ⟨_,g,h5,ho9⟩
 ·simp at hbad
 have hp0:=hPo 0 f (by simp)
 rw[hfs,hfl] at hp0
 have hp0':P[0]? =some ⟨s,f.dep,t.length⟩:=by simpa [z8p] using hp0
 have e1:decide ((0:Int)≤ -1)=false:=by decide
 have h6':ts 6= .int .i64 (-1):=by rw[h6];rfl
 refine z2v ?_
 simp only[go_sem,z0,z1,z2,z3,reduceCtorEq,↓reduceIte,q5t,h6',e1,h4,h5,z7c,hB,z0g,decide_true]
 rw[q4f rfl]
 refine hR _ _ ⟨B + 1,by simp[z1o,AV.cv,cvL,AV.ids,idsL],by omega⟩ fun c=> ?_
 have:=fun gP gV g2=>hQ gP gV g2 P f.dep o3 o4 o5 o6 o7 o8 o9 c hPl hp0' (hF4 f (by simp))
 simp only[←hBh,z7c,z0g] at this
 exact this _ _ _
theorem WF.nodes {V:List Var} {ss:List Nat} {d:Nat} {t:Term} (h:WF V ss d t):∀ n∈t,∃ ss' s' ks,NodeOk V n ss' s' ks:=by
 induction h with
 | nil=>simp
 | cons h1 h2 h3 h4 ih1 ih2=>
   intro n hn
   rw[List.mem_cons,List.mem_append] at hn
   rcases hn with rfl | hn | hn
   ·exact⟨_,_,_,h2⟩
   ·exact ih1 n hn
   ·exact ih2 n hn
theorem NodeOk.name {V:List Var} {n:Node} {ss:List Nat} {s:Nat} {ks:Term} (hn:NodeOk V n ss s ks):n.op≠5∧(n.op=4→∃ v∈V,n.name=v.name∧n.sort=v.sort):=by
 cases hn with
 | var h=>exact⟨by simp,fun _=>⟨_,h,rfl,rfl⟩⟩
 | bool h=>exact⟨by simp[bare];omega,fun e=>by simp[bare] at e;omega⟩
 | andor h=>exact⟨by simp[bare];omega,fun e=>by simp[bare] at e;omega⟩
 | cmp h hs=>exact⟨by simp[bare];omega,fun e=>by simp[bare] at e;omega⟩
 | div h _ _=>exact⟨by simp;omega,fun e=>by simp at e;omega⟩
 | _=>exact⟨by simp[bare],fun e=>by simp[bare] at e⟩
def q8s (V:List Var) (t:Term):Prop:=∀ n∈t,n.op≠5∧(n.op=4→∃ v∈V,n.name=v.name∧n.sort=v.sort)
theorem WF.names {V:List Var} {ss:List Nat} {d:Nat} {t:Term} (h:WF V ss d t):q8s V t:=fun n hn=>by
 obtain⟨_,_,_,h⟩:=h.nodes n hn
 exact h.name
def z3d:Term→List Var→List Var
 | [],acc=>acc
 | n::t,acc=>if n.op=4∧(⟨n.name,n.sort⟩:Var)∉acc then z3d t (acc++[⟨n.name,n.sort⟩]) else z3d t acc
theorem q1z {V:List Var}:∀ {t:Term} {acc:List Var},q8s V t→(∀ v∈acc,v∈V)→∀ v∈z3d t acc,v∈V
 | [],acc,_,ha,v,hv=>ha v hv
 | n::t,acc,hn,ha,v,hv=>by
   have ht:q8s V t:=fun m hm=>hn m (List.mem_cons_of_mem _ hm)
   simp only[z3d] at hv
   split at hv
   ·rename_i hc
    refine q1z ht (fun w hw=> ?_) v hv
    rw[List.mem_append,List.mem_singleton] at hw
    rcases hw with hw | rfl
    ·exact ha w hw
    ·obtain⟨v',hv',e1,e2⟩:=(hn n List.mem_cons_self).2 hc.1
     rw[e1,e2]
     exact hv'
   ·exact q1z ht ha v hv
theorem x2y {t u:Term} {acc:List Var}:z3d (t++u) acc=z3d u (z3d t acc):=by
 induction t generalizing acc with
 | nil=>rfl
 | cons n t ih=>
   simp only[List.cons_append,z3d]
   split
   ·exact ih
   ·exact ih
theorem q2a:∀ {t:Term} {acc:List Var},(z3d t acc).length≤acc.length + t.length
 | [],acc=>Nat.le_refl _
 | n::t,acc=>by
   simp only[z3d,List.length_cons]
   split
   ·have:=q2a (t:=t) (acc:=acc++[⟨n.name,n.sort⟩])
    simp at this
    omega
   ·have:=q2a (t:=t) (acc:=acc)
    omega
theorem x2z {v w:Var} (hv:v∈z0o) (hw:w∈z0o) (h:v.name=w.name):v=w:=by
 simp only[z0o,List.mem_cons,List.not_mem_nil,or_false] at hv hw
 rcases hv with rfl | rfl | rfl | rfl | rfl | rfl | rfl | rfl <;> rcases hw with rfl | rfl | rfl | rfl | rfl | rfl | rfl | rfl <;> first | rfl | (simp at h)
def q1i (acc:List Var):List (AV×AV):=acc.map fun v=>(.str v.name,z1p v)
theorem q5u {v:Var} (hv:v∈z0o):∀ {acc:List Var},(∀ w∈acc,w∈z0o)→findKey (.one .str) (.str v.name) (q1i acc)=some (if v∈acc then some (z1p v) else none)
 | [],_=>rfl
 | w::acc,ha=>by
   have ih:=q5u hv (acc:=acc) fun x hx=>ha x (List.mem_cons_of_mem _ hx)
   unfold q1i at ih⊢
   simp only[List.map_cons,findKey,AV.eqv,AV.eq1]
   by_cases h:v=w
   ·subst h
    simp
   ·have hne:decide (v.name=w.name)=false:=decide_eq_false fun e=>h (x2z hv (ha w List.mem_cons_self) e)
    simp only[hne,ih,List.mem_cons,h,false_or]
theorem q8t {v:Var} (hv:v∈z0o):∀ {acc:List Var},(∀ w∈acc,w∈z0o)→v∉acc→z6u (.one .str) (.str v.name) (z1p v) (q1i acc)=some (q1i (acc++[v]))
 | [],_,_=>rfl
 | w::acc,ha,hn=>by
   rw[List.mem_cons,not_or] at hn
   have ih:=q8t hv (acc:=acc) (fun x hx=>ha x (List.mem_cons_of_mem _ hx)) hn.2
   have hne:decide (v.name=w.name)=false:=decide_eq_false fun e=>hn.1 (x2z hv (ha w List.mem_cons_self) e)
   unfold q1i at ih⊢
   simp only[List.map_cons,List.cons_append,z6u,AV.eqv,AV.eq1,hne,ih,Option.map_some]
theorem q8u {h:List AObj} {z:AV} {es:List (AV×AV)} {s:List Nat} {r:Option AV} (hf:findKey (.one .str) (.str s) es=some r):lkV h (.one .str) z true (some es) (.str s)=some (q5z true z r,h):=by
 have:((AV.str s).eqv (.one .str) (.str s)).isSome=true:=by simp[AV.eqv,AV.eq1]
 simp only[lkV,this,if_true,hf,Option.map_some]
theorem v3g {h:List AObj} {z:AV} {es:List (AV×AV)} {s:List Nat} {r:Option AV} (hf:findKey (.one .str) (.str s) es=some r):lkV h (.one .str) z false (some es) (.str s)=some (q5z false z r,h):=by
 have:((AV.str s).eqv (.one .str) (.str s)).isSome=true:=by simp[AV.eqv,AV.eq1]
 simp only[lkV,this,if_true,hf,Option.map_some]
theorem x1g {z v:AV}:q5z true z (some v)= .tup [v, .bool true]:=(rfl)
theorem z9t {z:AV}:q5z true z none= .tup [z, .bool false]:=(rfl)
theorem z8f {z v:AV}:q5z false z (some v)=v:=(rfl)
theorem z5y {z:AV}:q5z false z none=z:=(rfl)
theorem z3t {h:List AObj} {s g:Nat}:x3i h (.mp s g)=z5f h s g:=(rfl)
theorem j0i {D L:List AObj} {B k g:Nat} {es es':List (AV×AV)} {s:List Nat} {v:AV} (hB:D.length=B) (hm:z5f L k g=some es) (ho:v.obs=[]) (hp:z6u (.one .str) (.str s) v.cv es=some es'):muV (D++L) (.one .str) (.str s) v (.mp (B + k) g)=some (.undef,D++L.set k (.map g es')):=by
 have hpub:pub (D++L) v=some (v.cv,D++L):=by simp only[pub,q4s ho,Option.map_some,ho,freezeAll]
 have:((AV.str s).eqv (.one .str) (.str s)).isSome=true:=by simp[AV.eqv,AV.eq1]
 simp only[muV,x2h hB,hm,hpub,this,if_true,hp,Option.map_some,z5j hB]
def q5a (gV:Nat) (t:Term) (sP gP:Nat):AObj:= .blk gV [.agg [z0g t, .ob sP gP 0 t.length]] false false 0
def j0j (gP:Nat) (P:List Pt):AObj:= .blk gP (P.map ePt) true false 0
def q9x (s sP gV gP:Nat) (t:Term) (P:List Pt):List (Nat×AObj):=[(s,q5a gV t sP gP),(sP,j0j gP P)]
theorem j0k {s sP gV gP:Nat} {t:Term} {P:List Pt}:Cov (q9x s sP gV gP t P) [s]:=by
 refine Cov.two ?_ ?_
 ·simp[q5a,AObj.ids,idsL,AV.ids,z2c]
 ·simp[j0j,AObj.ids,z0d (f:=ePt) fun _=>rfl]
theorem k3i {s sP gV gP:Nat} {t:Term} {P:List Pt} {p:Pt} (hl:t.length≤20000) (hP:P[0]? =some p) (hd:p.depth≤257) (hPl:P.length=t.length):Reads (q9x s sP gV gP t P) 210 [.ptr s gV 0 0] (.bool false):=by
 refine Reads.of rfl y1p rfl rfl rfl rfl j0k fun D B clk T hB hS hlt hT=> ?_
 have h1:=hlt (s,q5a gV t sP gP) (by simp[q9x])
 have h2:=hlt (sP,j0j gP P) (by simp[q9x])
 have b1:=z6l (g:=gV) (hS (s,q5a gV t sP gP) (by simp[q9x]))
 have b2:=z6l (g:=gP) (hS (sP,j0j gP P) (by simp[q9x]))
 dsimp only at h1 h2 b1 b2
 have hpos:0 < t.length:=by
  rw[←hPl]
  rw[List.getElem?_eq_some_iff] at hP
  exact hP.1
 have hg:(P.map ePt)[0]? =some (.agg [.int .i64 (p.sort:Int), .int .i64 (p.depth:Int), .int .i64 (p.fin:Int)]):=x2x hP
 have hix:∀ L,z1t (D++L) 3 (.ob sP gP 0 t.length) (.int .i64 0)=some (.ptr sP gP 0 0,D++L):=fun L=>by
  have:z2a (D++L) sP gP=some (P.map ePt,true,false,0):=by rw[z3y hB h2,b2]
  simp only[z1t,Int.le_refl,if_true,this,Int.toNat_zero,Nat.add_zero,hg]
  rw[if_pos ⟨hpos,rfl⟩]
 have e1:decide ((20000:Int) < (t.length:Int))=false:=by rw[decide_eq_false_iff_not];omega
 have e2:decide ((257:Int) < (p.depth:Int))=false:=by rw[decide_eq_false_iff_not];omega
 simp only[go_sem,z0,z1,↓reduceIte,w3o,z3y hB h1,b1,z3y hB h2,b2,z0g,List.length_map,e1,hix,hg,e2]
 rw[z0f]
 exact hT _ hS.app
theorem x3a {s sP gV gP:Nat} {t:Term} {P:List Pt} {V:List Var} (hl:t.length≤20000) (hn:q8s V t) (hV:∀ v∈V,v∈z0o):Reads (q9x s sP gV gP t P) 198 [.ptr s gV 0 0] (.tup [.sl ((z3d t []).map z1p) .no, .sl [] .no, .bool true]):=by
 refine Reads.of rfl y1n rfl rfl rfl rfl j0k fun D B clk T hB hS hlt hT=> ?_
 have h1:=hlt (s,q5a gV t sP gP) (by simp[q9x])
 have b1:=z6l (g:=gV) (hS (s,q5a gV t sP gP) (by simp[q9x]))
 dsimp only at h1 b1
 simp only[go_sem,z0,z1,z2,z3,reduceCtorEq,↓reduceIte,w3m,hB,z3y hB h1,b1,z0g,List.length_map]
 refine z0t (fun m q=>∃ (i:Nat) (u:Tip) (g0 g1:Nat) (o2 o3 o4 o5 o6 o7 o8 o9 o10 o11:AObj),i≤t.length∧m=t.length - i∧q.ts 5= .mp (B + 0) g0∧q.ts 6= .mp (B + 1) g1∧q.ts 7= .sl ((z3d (t.take i) []).map z1p) u∧q.ts 8= .sl [] .nil∧q.ts 25= .sl (t.map eNode) .no∧q.ts 26= .int .i64 (t.length:Int)∧q.ts 27= .int .i64 (i:Int)∧q.h=D++[.map g0 (q1i (z3d (t.take i) [])), .map g1 [],o2,o3,o4,o5,o6,o7,o8,o9,o10,o11]∧q3t B 5 o5 u 2) t.length ⟨0, .nil,_,_,_,_,_,_,_,_,_,_,_,_,by omega,rfl,rfl,rfl,rfl,rfl,rfl,rfl,rfl,rfl, .inl rfl⟩ ?_
 rintro m ⟨ts,h,clk⟩ Pq ⟨i,u,g0,g1,o2,o3,o4,o5,o6,o7,o8,o9,o10,o11,hi,rfl,q5,q6,q7,q8,q25,q26,q27,rfl,hu⟩ hnx he hr
 dsimp only at q5 q6 q7 q8 q25 q26 q27
 have hacc:∀ v∈z3d (t.take i) [],v∈V:=q1z (fun n hn'=>hn n (List.mem_of_mem_take hn')) (by simp)
 by_cases hlt':i < t.length
 ·have e1:decide ((i:Int) < (t.length:Int))=true:=by rw[decide_eq_true_iff];omega
  have e2:IntKind.i64.wrap ((i:Int) + 1)=((i + 1:Nat):Int):=z0c (by omega) (by omega)
  have hti:t[i]? =some t[i]:=by simp[hlt']
  obtain⟨hn5,hn4⟩:=hn _ (List.getElem_mem hlt')
  have htake:t.take (i + 1)=t.take i++[t[i]]:=List.take_succ_eq_append_getElem hlt'
  generalize t[i]=n at hti hn5 hn4 htake
  have hvo:z3d (t.take (i + 1)) []=if n.op=4∧(⟨n.name,n.sort⟩:Var)∉z3d (t.take i) [] then z3d (t.take i) []++[⟨n.name,n.sort⟩] else z3d (t.take i) []:=by
   rw[htake,x2y]
   simp only[z3d]
  by_cases h4:n.op=4
  ·obtain⟨v,hv,e3,e4⟩:=hn4 h4
   have hfk:=q5u (hV v hv) (acc:=z3d (t.take i) []) fun w hw=>hV w (hacc w hw)
   have hf0:findKey (.one .str) (.str v.name) []=some none:=rfl
   have f4:decide ((n.op:Int)=4)=true:=by rw[decide_eq_true_iff];omega
   have hve:(⟨n.name,n.sort⟩:Var)=v:=by rw[e3,e4]
   rw[hve] at hvo
   by_cases hin:v∈z3d (t.take i) []
   ·rw[if_pos hin] at hfk
    rw[if_neg (fun hc=>hc.2 hin)] at hvo
    simp only[go_sem,z0,z1,z2,z3,reduceCtorEq,↓reduceIte,x5g,q5,q6,q7,q8,q25,q26,q27,hB,e1,z2o hti,f4,e3,e4,z3t,q8u hfk,q8u hf0,x1g,z9t,z1p,nat,Bool.not_true,decide_true,e2]
    rw[←hvo] at q7⊢
    exact hnx (t.length - (i + 1)) _ (by omega) ⟨i + 1,u,g0,g1,_,_,_,_,_,_,_,_,_,_,hlt',rfl,q5,q6,q7,q8,q25,q26,rfl,rfl,hu⟩
   ·rw[if_neg hin] at hfk
    rw[if_pos ⟨h4,hin⟩] at hvo
    have hput:=q8t (hV v hv) (acc:=z3d (t.take i) []) (fun w hw=>hV w (hacc w hw)) hin
    have hmu:∀ L:List AObj,z5f L 0 g0=some (q1i (z3d (t.take i) []))→muV (D++L) (.one .str) (.str v.name) (.agg [.str v.name, .int .i64 (v.sort:Int)]) (.mp (B + 0) g0)=some (.undef,D++L.set 0 (.map g0 (q1i (z3d (t.take i) []++[v])))):=fun L hL=>j0i (v:=z1p v) hB hL rfl hput
    have hlen:(z3d (t.take i) []).length≤20000:=by
     have:=q2a (t:=t.take i) (acc:=[])
     rw[List.length_take] at this
     simp only[List.length_nil] at this
     omega
    simp only[go_sem,z0,z1,z2,z3,reduceCtorEq,↓reduceIte,x5g,q5,q6,q7,q8,q25,q26,q27,hB,e1,z2o hti,f4,e3,e4,z3t,q8u hfk,z9t,Bool.not_false,hmu]
    have e8:(z3d (t.take i) []).map z1p++[AV.agg [AV.str v.name,AV.int .i64 (v.sort:Int)]]=(z3d (t.take (i + 1)) []).map z1p:=by rw[hvo,List.map_append];rfl
    rw[show [AV.agg [AV.str v.name,AV.int .i64 (v.sort:Int)]]=[v].map z1p from rfl,z0s hB rfl hu z3z z3z (by simp only[List.length_map,List.length_singleton];omega)]
    simp only[go_sem,z0,z1,z2,z3,reduceCtorEq,↓reduceIte,q5,q6,q7,q8,q25,q26,q27,hB,z3t,q8u hf0,z9t,decide_true,Bool.not_true,e2,z1p,nat,e8,←hvo]
    exact hnx (t.length - (i + 1)) _ (by omega) ⟨i + 1,_,g0,g1,_,_,_,_,_,_,_,_,_,_,hlt',rfl,q5,q6,rfl,q8,q25,q26,rfl,rfl, .inr (.inr ⟨_,rfl,rfl⟩)⟩
  ·rw[if_neg (fun hc=>h4 hc.1)] at hvo
   have f4:decide ((n.op:Int)=4)=false:=by rw[decide_eq_false_iff_not];omega
   have f5:decide ((n.op:Int)=5)=false:=by rw[decide_eq_false_iff_not];omega
   simp only[go_sem,z0,z1,z2,z3,reduceCtorEq,↓reduceIte,x5g,q5,q6,q7,q8,q25,q26,q27,hB,e1,z2o hti,f4,f5,e2]
   rw[←hvo] at q7⊢
   exact hnx (t.length - (i + 1)) _ (by omega) ⟨i + 1,u,g0,g1,_,_,_,_,_,_,_,_,_,_,hlt',rfl,q5,q6,q7,q8,q25,q26,rfl,rfl,hu⟩
 ·have e1:decide ((i:Int) < (t.length:Int))=false:=by rw[decide_eq_false_iff_not];omega
  have hti:t.take i=t:=List.take_of_length_le (by omega)
  rw[hti] at q7
  simp only[go_sem,z0,z1,z2,z3,reduceCtorEq,↓reduceIte,x5g,q5,q6,q7,q8,q25,q26,q27,hB,e1]
  refine he _ _ ?_
  simp only[go_sem,z0,z1,z2,z3,reduceCtorEq,↓reduceIte,q7,q8]
  rw[z0h rfl (by simp[z1o,AV.cv,cvL,AV.ids,idsL,z0d (f:=z1p) fun _=>rfl])]
  exact hT _ hS.app
theorem x3b {D:List AObj} {B:Nat} {t:Term} {gP gV g2:Nat} {P:List Pt} {o3 o4 o5 o6 o7 o8 o9:AObj} (hB:D.length=B):Has (q9x (B + 1) (B + 0) gV gP t P) (z7c D B t gP gV g2 P o3 o4 o5 o6 o7 o8 o9):=by
 refine Has.cons ?_ (Has.cons ?_ Has.nil)
 ·simp only[z7c,z5w hB];rfl
 ·simp only[z7c,z5w hB];rfl
theorem WF.pos {V:List Var} {s d:Nat} {t:Term} (h:WF V [s] d t):0 < t.length:=by
 cases h with
 | cons=>simp
theorem v3h {V:List Var} {s d:Nat} {t:Term} {u:Tip} {h:List AObj} {clk:Nat} {Q:AV→List AObj→Nat→Prop} (ht:WF V [s] d t) (hV:∀ v∈V,v∈z0o) (hl:t.length≤20000) (hd:d≤257)
  (hQ:∀ gP gV g2 P dep o3 o4 o5 o6 o7 o8 o9 c,P.length=t.length→P[0]? =some ⟨s,dep,t.length⟩→dep≤d→Q (.tup [.ptr (h.length + 1) gV 0 0, .bool true]) (z7c h h.length t gP gV g2 P o3 o4 o5 o6 o7 o8 o9) c):WC Gam 197 [.sl (t.map eNode) u] h clk Q:=by
 refine q8r rfl y1m rfl rfl rfl (az:=[.sl (t.map eNode) .no]) rfl (by simp[idsL,AV.ids,z0d z3r]) fun D B R hB hBh hR=> ?_
 have hpos:=ht.pos
 have e1:decide ((t.length:Int)=0)=false:=by rw[decide_eq_false_iff_not];omega
 have e2:decide ((20000:Int) < (t.length:Int))=false:=by rw[decide_eq_false_iff_not];omega
 simp only[go_sem,z0,w3l,hB,List.length_map,e1,e2,List.append_nil]
 refine z6i (y2w ht hV hl (by omega) fun gP gV g2 P dep o3 o4 o5 o6 o7 o8 o9 c hPl hp hdep=> ?_)
 rw[hB]
 have r1:=k3i (s:=B + 1) (sP:=B + 0) (gV:=gV) (gP:=gP) hl hp (by dsimp only;omega) hPl
 have r2:=x3a (s:=B + 1) (sP:=B + 0) (gV:=gV) (gP:=gP) (P:=P) hl ht.names hV
 have hh:=x3b (t:=t) (gP:=gP) (gV:=gV) (g2:=g2) (P:=P) (o3:=o3) (o4:=o4) (o5:=o5) (o6:=o6) (o7:=o7) (o8:=o8) (o9:=o9) hB
 simp only[go_sem,z0,Bool.not_true,z0w r1 hh,z0w r2 hh]
 rw[q4f rfl]
 have:=fun gP gV g2 c=>hQ gP gV g2 P dep o3 o4 o5 o6 o7 o8 o9 c hPl hp hdep
 simp only[←hBh] at this
 exact hR _ _ ⟨B + 1,by simp[z1o,AV.cv,cvL,AV.ids,idsL],by omega⟩ fun c=>this _ _ _ c
theorem v3i {V:List Var} {s d:Nat} {t:Term} {u:Tip} (ht:WF V [s] d t) (hV:∀ v∈V,v∈z0o) (hl:t.length≤20000) (hd:d≤257):Pure Gam 177 [.sl (t.map eNode) u] (nat s):=by
 refine Pure.of rfl y1j rfl rfl rfl (az:=[.sl (t.map eNode) .no]) rfl (by simp[idsL,AV.ids,z0d z3r]) fun D B clk T hB hT=> ?_
 simp only[go_sem,z0,z1,↓reduceIte,w3i,List.append_nil]
 refine z6i (v3h ht hV hl hd fun gP gV g2 P dep o3 o4 o5 o6 o7 o8 o9 c hPl hp hdep=> ?_)
 rw[hB]
 have hix:∀ L,z1t (D++ .blk gP (P.map ePt) true false 0::L) 3 (.ob (B + 0) gP 0 t.length) (.int .i64 0)=some (.ptr (B + 0) gP 0 0,D++ .blk gP (P.map ePt) true false 0::L):=fun L=>q6l (i:=0) hB hp hPl
 simp only[go_sem,z0,z1,↓reduceIte,Bool.not_true,z7c,hB,hix,x2x hp]
 rw[z2h]
 exact hT _
theorem v3j {V:List Var} {s d:Nat} {t:Term} {u:Tip} (ht:WF V [s] d t) (hV:∀ v∈V,v∈z0o) (hl:t.length≤20000) (hd:d≤257):Pure Gam 178 [.sl (t.map eNode) u] (.sl [] .no):=by
 refine Pure.of rfl y1k rfl rfl rfl (az:=[.sl (t.map eNode) .no]) rfl (by simp[idsL,AV.ids,z0d z3r]) fun D B clk T hB hT=> ?_
 simp only[go_sem,z0,w3j,List.append_nil]
 refine z6i (v3h ht hV hl hd fun gP gV g2 P dep o3 o4 o5 o6 o7 o8 o9 c hPl hp hdep=> ?_)
 rw[hB]
 have r2:=x3a (s:=B + 1) (sP:=B + 0) (gV:=gV) (gP:=gP) (P:=P) hl ht.names hV
 have hh:=x3b (t:=t) (gP:=gP) (gV:=gV) (g2:=g2) (P:=P) (o3:=o3) (o4:=o4) (o5:=o5) (o6:=o6) (o7:=o7) (o8:=o8) (o9:=o9) hB
 simp only[go_sem,z0,Bool.not_true,z0w r2 hh]
 rw[z0h rfl rfl]
 exact hT _
theorem v3k {V:List Var} {s d:Nat} {t:Term} {u:Tip} (ht:WF V [s] d t) (hV:∀ v∈V,v∈z0o) (hl:t.length≤20000) (hd:d≤257):Pure Gam 180 [.sl (t.map eNode) u] (.sl ((z3d t []).map z1p) .no):=by
 refine Pure.of rfl y1l rfl rfl rfl (az:=[.sl (t.map eNode) .no]) rfl (by simp[idsL,AV.ids,z0d z3r]) fun D B clk T hB hT=> ?_
 simp only[go_sem,z0,w3k,List.append_nil]
 refine z6i (v3h ht hV hl hd fun gP gV g2 P dep o3 o4 o5 o6 o7 o8 o9 c hPl hp hdep=> ?_)
 rw[hB]
 have r2:=x3a (s:=B + 1) (sP:=B + 0) (gV:=gV) (gP:=gP) (P:=P) hl ht.names hV
 have hh:=x3b (t:=t) (gP:=gP) (gV:=gV) (g2:=g2) (P:=P) (o3:=o3) (o4:=o4) (o5:=o5) (o6:=o6) (o7:=o7) (o8:=o8) (o9:=o9) hB
 simp only[go_sem,z0,Bool.not_true,z0w r2 hh]
 rw[z3s rfl (by simp[AV.cv,AV.ids,z0d (f:=z1p) fun _=>rfl])]
 exact hT _
theorem j8j {D:List AObj} {s g:Nat} {es:List (AV×AV)} (h:D[s]? =some (.map g es)):z5f D s g=some es:=by simp[z5f,h]
theorem x3c {D L:List AObj} {B s g:Nat} (hB:D.length=B) (h:s < B):z5f (D++L) s g=z5f D s g:=by
 unfold z5f
 rw[z0r hB h]
def z1e (V:List Var):List (AV×AV):=V.map fun v=>(z1p v, .bool true)
theorem x3d {v w:Var}:(z1p v).eqv (.agg [.str, .int]) (z1p w)=some (decide (v=w)):=by
 have:(decide (v.name=w.name) && (decide ((v.sort:Int)=(w.sort:Int)) && true))=decide (v=w):=by
  rw[Bool.and_true,Bool.eq_iff_iff]
  simp only[Bool.and_eq_true,decide_eq_true_iff]
  constructor
  ·rintro ⟨h1,h2⟩
   cases v;cases w
   simp only[Var.mk.injEq] at h1 h2⊢
   exact⟨h1,by omega⟩
  ·rintro rfl
   exact⟨rfl,rfl⟩
 rw[←this]
 rfl
theorem q8v {v:Var}:∀ {V:List Var},findKey (.agg [.str, .int]) (z1p v) (z1e V)=some (if v∈V then some (.bool true) else none)
 | []=>rfl
 | w::V=>by
   have ih:=q8v (v:=v) (V:=V)
   unfold z1e at ih⊢
   simp only[List.map_cons,findKey,x3d]
   by_cases h:v=w
   ·subst h
    simp
   ·simp only[h,decide_false,ih,List.mem_cons,false_or]
theorem x1h {v:Var}:∀ {V:List Var},v∉V→z6u (.agg [.str, .int]) (z1p v) (.bool true) (z1e V)=some (z1e (V++[v]))
 | [],_=>rfl
 | w::V,hn=>by
   rw[List.mem_cons,not_or] at hn
   have ih:=x1h (v:=v) (V:=V) hn.2
   unfold z1e at ih⊢
   simp only[List.map_cons,List.cons_append,z6u,x3d,hn.1,decide_false,ih,Option.map_some]
theorem q1j {g:Nat} {V:List Var}:(AObj.map g (z1e V)).ids=[]:=by
 simp only[AObj.ids,z1e,List.map_map,List.append_eq_nil_iff]
 constructor
 ·have:(Prod.fst∘fun v:Var=>(z1p v,AV.bool true))=z1p:=rfl
  rw[this]
  exact z0d fun _=>rfl
 ·exact z0d (f:=Prod.snd∘fun v:Var=>(z1p v,AV.bool true)) fun _=>rfl
theorem k6k {h:List AObj} {z:AV} {v:Var} {V:List Var}:lkV h (.agg [.str, .int]) z false (some (z1e V)) (.agg [.str v.name, .int .i64 (v.sort:Int)])=some (q5z false z (if v∈V then some (.bool true) else none),h):=by
 have h1:((z1p v).eqv (.agg [.str, .int]) (z1p v)).isSome=true:=by rw[x3d];rfl
 have h2:=q8v (v:=v) (V:=V)
 rw[show z1p v= .agg [.str v.name, .int .i64 (v.sort:Int)] from rfl] at h1 h2
 simp only[lkV,h1,if_true,h2,Option.map_some]
theorem k3j {s g sX gX:Nat} {v:Var} {V:List Var}:Reads [(s, .blk g [.mp sX gX] false false 0),(sX, .map gX (z1e V))] 181 [z1p v, .ptr s g 0 0] (.bool (!decide (v∈V))):=by
 refine Reads.of rfl y2s rfl rfl rfl (az:=[z1p v, .ptr s g 0 0]) rfl (Cov.two rfl q1j) fun D B clk T hB hS hlt hT=> ?_
 have h1:=hlt (s, .blk g [.mp sX gX] false false 0) (by simp)
 have h2:=hlt (sX, .map gX (z1e V)) (by simp)
 have b1:=z6l (g:=g) (hS (s, .blk g [.mp sX gX] false false 0) (by simp))
 have b2:=j8j (g:=gX) (hS (sX, .map gX (z1e V)) (by simp))
 dsimp only at h1 h2 b1 b2
 by_cases hin:v∈V
 ·simp only[go_sem,z0,z2,v3b,hB,z1p,nat,z3y hB h1,b1,z3t,x3c hB h2,b2,k6k,hin,z8f,Bool.not_true]
  rw[z0f]
  simp only[hin,decide_true,Bool.not_true] at hT
  exact hT _ hS.app
 ·simp only[go_sem,z0,z2,v3b,hB,z1p,nat,z3y hB h1,b1,z3t,x3c hB h2,b2,k6k,hin,z5y,Bool.not_false]
  rw[z0f]
  simp only[hin,decide_false,Bool.not_false] at hT
  exact hT _ hS.app
theorem Cov.mp1 {s g:Nat} {es:List (AV×AV)} (h:(AObj.map g es).ids=[]):Cov [(s, .map g es)] [s]:=Cov.one h
theorem j0l {sX gX s d:Nat} {V:List Var} {t:Term} {u:Tip} (ht:WF V [s] d t) (hV:∀ v∈V,v∈z0o) (hl:t.length≤20000) (hd:d≤257):Reads [(sX, .map gX (z1e V))] 143 [.mp sX gX, .sl (t.map eNode) u,nat s] (.bool true):=by
 refine Reads.of rfl y2p rfl rfl rfl (az:=[.mp sX gX, .sl (t.map eNode) .no,nat s]) rfl (by simpa [idsL,AV.ids,z0d z3r,nat] using Cov.mp1 q1j) fun D B clk T hB hS hlt hT=> ?_
 have h2:=hlt (sX, .map gX (z1e V)) (by simp)
 have p1:=v3i (u:= .no) ht hV hl hd
 have p2:=v3j (u:= .no) ht hV hl hd
 have p3:=v3k (u:= .no) ht hV hl hd
 rw[nat] at p1
 have hvl:(z3d t []).length≤2 ^ 20:=by
  have:=q2a (t:=t) (acc:=[])
  simp only[List.length_nil] at this
  omega
 have hr:∀ g,Reads [(B + 0, .blk g [.mp sX gX] false false 0),(sX, .map gX (z1e V))] 179 [.sl ((z3d t []).map z1p) .no, .fn 181 [.ptr (B + 0) g 0 0]] (.bool ((z3d t []).any fun v=> !decide (v∈V))):=fun g=>
  k3d (enc:=z1p) (P:=fun v=> !decide (v∈V)) (fun _=>rfl) (fun _ _=>rfl) (fun _=>rfl) hvl (by simpa [idsL,AV.ids] using Cov.two (s:=B + 0) (t:=sX) rfl q1j) fun v _=>k3j
 have e:((z3d t []).any fun v=> !decide (v∈V))=false:=by
  rw[List.any_eq_false]
  intro v hv
  have:=q1z ht.names (acc:=[]) (by simp) v hv
  simp[this]
 rw[e] at hr
 have hh:∀ g,Has [(B + 0, .blk g [.mp sX gX] false false 0),(sX, .map gX (z1e V))] (D++[.blk g [.mp sX gX] false false 0]):=fun g=>by
  refine Has.cons ?_ (Has.cons ?_ Has.nil)
  ·dsimp only;rw[z5w hB];rfl
  ·have:=hS.app (L:=[.blk g [.mp sX gX] false false 0]) (sX, .map gX (z1e V)) (by simp)
   exact this
 simp only[go_sem,z0,w4r,hB,nat,z0a p1,decide_true,Bool.not_true,z0a p2,Int.reduceLT,decide_false,z0a p3]
 rw[z0w (hr _) (hh _)]
 simp only[go_sem,z0,Bool.not_false]
 rw[z0f]
 exact hT _ hS.app
end Go.Proofs.YtmkblnlafljljaaGreatDoor.Am
