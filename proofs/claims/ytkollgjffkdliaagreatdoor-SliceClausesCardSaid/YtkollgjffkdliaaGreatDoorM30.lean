/- Walking: a term is looked at from its last node on: what holds between the nodes Walking: a term is looked at from its last node on: a node Walking: calls that answer a pointer to something new Walkin -/
import Derived.Test.YtkollgjffkdliaaGreatDoorM29
set_option linter.all false
namespace Go.Proofs.YtkollgjffkdliaaGreatDoor.Am
open Go
set_option maxRecDepth 100000
section
variable {U:List Var} [UOk U]
structure Tr where
 s:Nat
 len:Nat
 dep:Nat
def z9q (F:List Tr):Nat:=(F.map (·.len)).sum
theorem y9g:z9q []=0:=rfl
theorem q6e {f:Tr} {F:List Tr}:z9q (f::F)=f.len + z9q F:=by simp[z9q]
theorem x1o {F G:List Tr}:z9q (F++G)=z9q F + z9q G:=by simp[z9q]
theorem k5a {F:List Tr} {j:Nat} (hj:j < F.length):z9q (F.take (j + 1))=z9q (F.take j) + F[j].len:=by
 rw[List.take_succ_eq_append_getElem hj,x1o]
 simp[z9q]
def z4n (i:Nat):List Tr→List Nat
 | []=>[]
 | f::F=>i::z4n (i + f.len) F
theorem q1a {i:Nat} {F:List Tr}:(z4n i F).length=F.length:=by
 induction F generalizing i with
 | nil=>rfl
 | cons f F ih=>simp[z4n,ih]
theorem q6f {i:Nat} {F G:List Tr}:z4n i (F++G)=z4n i F++z4n (i + z9q F) G:=by
 induction F generalizing i with
 | nil=>rfl
 | cons f F ih=>simp only[List.cons_append,z4n,ih,q6e,Nat.add_assoc]
theorem k0e {i j:Nat} {F:List Tr} (hj:j < F.length):(z4n i F)[j]? =some (i + z9q (F.take j)):=by
 induction F generalizing i j with
 | nil=>simp at hj
 | cons f F ih=>
   cases j with
   | zero=>simp[z4n,z9q]
   | succ j=>
     simp only[z4n,List.getElem?_cons_succ,List.take_succ_cons,q6e]
     rw[ih (by simpa using hj),Nat.add_assoc]
structure Pt where
 sort:Nat
 depth:Nat
 fin:Nat
def ePt (p:Pt):AV:= .agg [.int .i64 (p.sort:Int), .int .i64 (p.depth:Int), .int .i64 (p.fin:Int)]
def PartsOk (P:List Pt) (i:Nat) (F:List Tr):Prop:=∀ j f,F[j]? =some f→P[i + z9q (F.take j)]? =some ⟨f.s,f.dep,i + z9q (F.take j) + f.len⟩
theorem PartsOk.nil {P:List Pt} {i:Nat}:PartsOk P i []:=fun j f h=>by simp at h
theorem PartsOk.node {P:List Pt} {i:Nat} {K G:List Tr} {s dep:Nat} (h:PartsOk P (i + 1) (K++G)) (hi:i < P.length):PartsOk (P.set i ⟨s,dep,i + (1 + z9q K)⟩) i (⟨s,1 + z9q K,dep⟩::G):=by
 intro j f hj
 cases j with
 | zero=>
   simp at hj
   subst hj
   simp[z9q,hi]
 | succ j=>
   simp only[List.getElem?_cons_succ] at hj
   have:=h (K.length + j) f (by rw[List.getElem?_append_right (by omega)];simpa using hj)
   rw[List.take_append,List.take_of_length_le (by omega),x1o,show K.length + j - K.length=j by omega] at this
   simp only[List.take_succ_cons,q6e]
   rw[List.getElem?_set_ne (by omega)]
   rw[show i + (1 + z9q K + z9q (G.take j))=i + 1 + (z9q K + z9q (G.take j)) by omega]
   exact this
theorem NodeOk.pos {V:List Var} {n:Node} {ss:List Nat} {s:Nat} {ks:Term} (hn:NodeOk V n ss s ks) (hV:∀ v∈V,v∈U):1≤s∧s≤4:=by
 cases hn with
 | var h=>exact q6c (hV _ h)
 | cmp h hs=>omega
 | add h hs=>omega
 | mul hs hn=>omega
 | ite h1 h2=>omega
 | eq h1 h2=>omega
 | _=>omega
theorem NodeOk.mul_num {V:List Var} {n:Node} {ss:List Nat} {s:Nat} {ks:Term} (hn:NodeOk V n ss s ks) (h:n.op=15):∃ m r,ks=m::r∧m.op=3:=by
 cases hn with
 | mul hs hm=>exact⟨_,_,rfl,hm⟩
 | bool h'=>exact absurd h (by simp[bare];omega)
 | andor h'=>exact absurd h (by simp[bare];omega)
 | cmp h' _=>exact absurd h (by simp[bare];omega)
 | div h' _ _=>exact absurd h (by simp;omega)
 | _=>simp[bare] at h
def k5b (B i:Nat) (F:List Tr) (r:AV) (o:AObj):Prop:=(F=[]∧r= .sl [] .nil)∨(F≠[]∧∃ g,r= .ob (B + 9) g 0 F.length∧o= .blk g ((z4n i F).reverse.map nat) true true 0)
def z8e (D:List AObj) (B:Nat) (t:Term) (gP gV g2:Nat) (P:List Pt) (o3 o4 o5 o6 o7 o8 o9:AObj):List AObj:=
 D++[.blk gP (P.map ePt) true false 0, .blk gV [.agg [z0n t, .ob (B + 0) gP 0 t.length]] false false 0, .blk g2 [.ptr (B + 1) gV 0 0] false false 0,o3,o4,o5,o6,o7,o8,o9]
def j6v (D:List AObj) (B:Nat) (t:Term) (gP gV g2:Nat) (i:Nat) (F:List Tr) (q:St):Prop:=
 ∃ P o3 o4 o5 o6 o7 o8 o9,P.length=t.length∧PartsOk P i F∧q.ts 0=z0n t∧q.ts 4= .ptr (B + 2) g2 0 0∧q.ts 6= .int .i64 ((i:Int) - 1)∧k5b B i F (q.ts 5) o9∧q.h=z8e D B t gP gV g2 P o3 o4 o5 o6 o7 o8 o9
theorem j3s {D:List AObj} {B:Nat} {t:Term} {gP gV g2 i:Nat} {K G:List Tr} {r:AV} {o:AObj} (hB:D.length=B) (hr:k5b B (i + 1) (K++G) r o) (hl:(K++G).length≤2 ^ 20):
  (∀ h,k8w h .sl r=some (.int .i64 ((K++G).length:Int),h))∧
  ∃ kv rv:AV,(∀ P o3 o4 o5 o6 o7 o8,slV (z8e D B t gP gV g2 P o3 o4 o5 o6 o7 o8 o) (some 1) r (some (.int .i64 (G.length:Int))) none none=some (kv,z8e D B t gP gV g2 P o3 o4 o5 o6 o7 o8 o))∧
    (∀ P o3 o4 o5 o6 o7 o8,slV (z8e D B t gP gV g2 P o3 o4 o5 o6 o7 o8 o) (some 1) r none (some (.int .i64 (G.length:Int))) none=some (rv,z8e D B t gP gV g2 P o3 o4 o5 o6 o7 o8 o))∧
    z7l kv=some K.length∧
    (∀ j P o3 o4 o5 o6 o7 o8,j < K.length→q7u (z8e D B t gP gV g2 P o3 o4 o5 o6 o7 o8 o) kv (K.length - 1 - j)=some (nat (i + 1 + z9q (K.take j))))∧
    (∀ (f:Tr) P o3 o4 o5 o6 o7 g8 gen,f.len=1 + z9q K→z1k (z8e D B t gP gV g2 P o3 o4 o5 o6 o7 (.blk g8 [nat i] true false 0) o) (B + 9) gen 1 8 true rv (.ob (B + 8) g8 0 1)=some (.ob (B + 9) gen 0 (G.length + 1),z8e D B t gP gV g2 P o3 o4 o5 o6 o7 (.blk g8 [nat i] true false 0) (.blk gen ((z4n i (f::G)).reverse.map nat) true true 0))):=by
 have hsrc:∀ P o3 o4 o5 o6 o7 g8,z5s (z8e D B t gP gV g2 P o3 o4 o5 o6 o7 (.blk g8 [nat i] true false 0) o) (.ob (B + 8) g8 0 1)=some [nat i]:=fun P o3 o4 o5 o6 o7 g8=>
  z9g (k:=8) (es:=[nat i]) (w:=false) hB rfl rfl
 rcases hr with ⟨hF,rfl⟩ | ⟨hF,g,rfl,rfl⟩
 ·have hK:K=[]:=(List.append_eq_nil_iff.1 hF).1
  have hG:G=[]:=(List.append_eq_nil_iff.1 hF).2
  subst hK;subst hG
  refine⟨fun h=>rfl, .sl [] .nil, .sl [] .nil,fun _ _ _ _ _ _ _=>rfl,fun _ _ _ _ _ _ _=>rfl,rfl,fun j _ _ _ _ _ _ _ hj=>by simp at hj,fun f P o3 o4 o5 o6 o7 g8 gen hf=> ?_⟩
  unfold z1k
  rw[hsrc]
  simp[z0v,nat,AV.def?,AV.cells,AV.one,z1g,z8e,z5l hB,z4n]
 ·have hN:(K++G).length=K.length + G.length:=List.length_append
  have hgr:(z8e D B t gP gV g2 [] .dead .dead .dead .dead .dead .dead (.blk g ((z4n (i + 1) (K++G)).reverse.map nat) true true 0)).length=B + 10:=by simp[z8e,hB]
  have hblk:∀ P o3 o4 o5 o6 o7 o8,z2g (z8e D B t gP gV g2 P o3 o4 o5 o6 o7 o8 (.blk g ((z4n (i + 1) (K++G)).reverse.map nat) true true 0)) (B + 9) g=some ((z4n (i + 1) (K++G)).reverse.map nat,true,true,0):=fun P o3 o4 o5 o6 o7 o8=>by
   unfold z8e
   rw[z7b hB]
   simp[z2g]
  have hlen:((z4n (i + 1) (K++G)).reverse.map nat).length=(K++G).length:=by simp[q1a]
  have hhead:z4s 1 ((z4n (i + 1) (K++G)).reverse.map nat)=true:=by
   cases (z4n (i + 1) (K++G)).reverse <;> rfl
  have hall:z0v 1 ((z4n (i + 1) (K++G)).reverse.map nat)=true:=z4l
  refine⟨fun h=>rfl, .ob (B + 9) g G.length K.length, .ob (B + 9) g 0 G.length,fun P o3 o4 o5 o6 o7 o8=> ?_,fun P o3 o4 o5 o6 o7 o8=> ?_, ?_,fun j P o3 o4 o5 o6 o7 o8 hj=> ?_,fun f P o3 o4 o5 o6 o7 g8 gen hf=> ?_⟩
  ·simp only[slV,z2w,hblk,z5b,Int.natCast_nonneg,if_true,Int.toNat_natCast]
   rw[if_pos ⟨by omega,hhead,by omega,by omega⟩,Option.map_some]
   rw[Nat.zero_add,show (K++G).length - G.length=K.length by omega]
  ·simp only[slV,z2w,hblk,z5b,Int.natCast_nonneg,if_true,Int.toNat_natCast]
   rw[if_pos ⟨by omega,hhead,by omega,by omega⟩,Option.map_some]
   rfl
  ·simp only[z7l]
   rw[if_pos (by omega)]
  ·unfold q7u
   simp only[z5s,q8p,hblk]
   rw[if_pos (by omega)]
   have h1:(((List.map nat (z4n (i + 1) (K++G)).reverse).drop G.length).take K.length)[K.length - 1 - j]? =some (nat (i + 1 + z9q (K.take j))):=by
    rw[List.getElem?_take_of_lt (by omega),List.getElem?_drop,List.getElem?_map,List.getElem?_reverse (by rw[q1a];omega),q1a,show (K++G).length - 1 - (G.length + (K.length - 1 - j))=j by omega,q6f,List.getElem?_append_left (by rw[q1a];omega),k0e hj]
    rfl
   simp only[h1]
   rfl
  ·have hGK:(List.map nat (z4n (i + 1) (K++G)).reverse).take G.length=(z4n (i + 1 + z9q K) G).reverse.map nat:=by
    rw[←List.map_take,q6f,List.reverse_append,List.take_left' (by simp[q1a])]
   have hnew:(z4n i (f::G)).reverse.map nat=(z4n (i + 1 + z9q K) G).reverse.map nat++[nat i]:=by
    rw[z4n,hf,List.reverse_cons,List.map_append,show i + (1 + z9q K)=i + 1 + z9q K by omega]
    rfl
   unfold z1k
   rw[hsrc]
   have hpos:0 < (K++G).length:=List.length_pos_iff.2 hF
   have hgt:¬ (G.length + 1) * (8 + 1) > z1g:=by unfold z1g;omega
   have ha1:z0v 1 [nat i]=true:=rfl
   simp only[ha1,hblk,hall,List.length_singleton,decide_eq_true_eq,hgt,Bool.not_true,Bool.false_eq_true,if_false,beq_self_eq_true,decide_false,Bool.or_self,List.isEmpty_cons,if_true,Nat.zero_le,hlen,true_and]
   rw[if_pos ⟨by omega,hpos⟩,hGK,←hnew]
   congr 2
   simp only[z8e,z5l hB,List.set_cons_succ,List.set_cons_zero]
end
section
variable {U:List Var} [UOk U]
section
variable {h:List AObj} {base g k:Nat} {ts:Tmps} {z:AV} {dst:Option Nat} {os:List AOper} {clk:Nat} {ks:List Kf} {Q:Post}
def bwV (h:List AObj) (f:Nat) (v:AV):Option (AV×List AObj):=if (z7l v).isSome then some (.bwd f v,h) else none
theorem y6r {f n:Nat} {v:AV} (hr:z7l v=some n):bwV h f v=some (.bwd f v,h):=by simp[bwV,hr]
theorem k0f {f:Nat} {x:AOpd}:O Gam base .plain g (⟨dst, .backward f x,none⟩::os) ⟨ts,h,clk⟩ ks Q=PP Gam base (bwV h f (x.ev ts)) dst g os ts clk ks Q:=by
 rw[q4d rfl];rfl
def u5s (h:List AObj) (s g:Nat) (z:AV) (v:AV):Option (AV×List AObj):=
 if !z.def? then none else match q0j h [v] with
  | some vs=>(z5r z.cells.length [z] [0] vs).map fun es=>(.ob s g 0 1,(freezeAll h (z4r [v])).set s (.blk g es true false 0))
  | none=>none
theorem v1n {s:Nat} {K J:IntKind} {a b:Int}:u5s h s g (.int K a) (.int J b)=some (.ob s g 0 1,h.set s (.blk g [.int J b] true false 0)):=(rfl)
theorem u5t {x:AOpd}:O Gam base .plain g (⟨dst, .buildSlice k true z 1 [(0,x)],none⟩::os) ⟨ts,h,clk⟩ ks Q=PP Gam base (u5s h (base + k) g z (x.ev ts)) dst g os ts clk ks Q:=by
 rw[q4d rfl]
 congr 1
end
attribute [go_sem] k0f u5t v1n
theorem q9c {D:List AObj} {B gP n i:Nat} {P:List Pt} {L:List AObj} {p:Pt} (hB:D.length=B) (hi:P[i]? =some p) (hn:P.length=n):z1p (D++ .blk gP (P.map ePt) true false 0::L) 3 (.ob (B + 0) gP 0 n) (.int .i64 (i:Int))=some (.ptr (B + 0) gP i 0,D++ .blk gP (P.map ePt) true false 0::L):=by
 have hb:z2g (D++ .blk gP (P.map ePt) true false 0::L) (B + 0) gP=some (P.map ePt,true,false,0):=by rw[z7b hB];simp[z2g]
 have hlt:i < n:=by
  rw[List.getElem?_eq_some_iff] at hi
  have:=hi.1
  omega
 have h1:(P.map ePt)[0 + i]? =some (ePt p):=by rw[Nat.zero_add,List.getElem?_map,hi];rfl
 simp only[z1p,Int.natCast_nonneg,if_true,hb,Int.toNat_natCast,h1]
 rw[if_pos ⟨hlt,rfl⟩,Nat.zero_add]
theorem x6u {P:List Pt} {i:Nat} {p:Pt} (hi:P[i]? =some p):(P.map ePt)[i]? =some (.agg [.int .i64 (p.sort:Int), .int .i64 (p.depth:Int), .int .i64 (p.fin:Int)]):=by rw[List.getElem?_map,hi];rfl
theorem z2q {t:Term} {i:Nat} {n:Node} {h:List AObj} {u:Tip} {k:IntKind} (hi:t[i]? =some n):z1p h 5 (.sl (t.map eNode) u) (.int k (i:Int))=some (.iptr [.int .i64 (n.op:Int), .int .i64 (n.sort:Int), .str n.name, .str n.num, .int .i64 (n.kids:Int)] 0,h):=by
 have hlt:i < t.length:=by
  rw[List.getElem?_eq_some_iff] at hi
  exact hi.1
 have h1:t[i]=n:=by
  rw[List.getElem?_eq_some_iff] at hi
  exact hi.2
 rw[z2d (f:=eNode) hlt (cs:=[.int .i64 (n.op:Int), .int .i64 (n.sort:Int), .str n.name, .str n.num, .int .i64 (n.kids:Int)]) (esz:=5) (by rw[h1];rfl) rfl]
def y6s:ACode:=(.region 1 [⟨(some 12), .move (.tmp 66),none⟩] [])
def y6t:ACode:=(.block 3 (.seq (.region 12 [⟨(some 67), .load none (.tmp 10),none⟩,⟨(some 68), .load none (.tmp 4),none⟩,⟨(some 69), .nilCheck (.tmp 68),none⟩,⟨(some 70), .fieldAddr (.tmp 69) 1,none⟩,⟨(some 71), .load none (.tmp 70),none⟩,⟨(some 72), .move (.tmp 12),none⟩,⟨(some 73), .indexAddr none 3 (.tmp 71) (.tmp 72),none⟩,⟨(some 74), .fieldAddr (.tmp 73) 0,none⟩,⟨(some 75), .load none (.tmp 74),none⟩,⟨(some 76), .buildSlice 6 false (.int .i64 0) 1 [(0,(.tmp 75))],none⟩,⟨(some 77), .append 7 1 8 false (.tmp 67) (.tmp 76),none⟩,⟨none, .store 1 (.tmp 10) (.tmp 77),none⟩] [(0,9)]) (.seq (.region 14 [⟨(some 78), .fieldAddr (.tmp 9) 1,none⟩,⟨(some 79), .load none (.tmp 78),none⟩,⟨(some 80), .load none (.tmp 4),none⟩,⟨(some 81), .nilCheck (.tmp 80),none⟩,⟨(some 82), .fieldAddr (.tmp 81) 1,none⟩,⟨(some 83), .load none (.tmp 82),none⟩,⟨(some 84), .move (.tmp 12),none⟩,⟨(some 85), .indexAddr none 3 (.tmp 83) (.tmp 84),none⟩,⟨(some 86), .fieldAddr (.tmp 85) 1,none⟩,⟨(some 87), .load none (.tmp 86),none⟩,⟨(some 88), .binOp .add (.one .int) (.tmp 87) (.const (.int .i64 1)),none⟩,⟨(some 89), .minmax true (.tmp 79) (.tmp 88),none⟩,⟨(some 90), .fieldAddr (.tmp 9) 1,none⟩,⟨none, .store 1 (.tmp 90) (.tmp 89),none⟩] []) (.region 10 [⟨(some 91), .load none (.tmp 4),none⟩,⟨(some 92), .nilCheck (.tmp 91),none⟩,⟨(some 93), .fieldAddr (.tmp 92) 1,none⟩,⟨(some 94), .load none (.tmp 93),none⟩,⟨(some 95), .move (.tmp 12),none⟩,⟨(some 96), .indexAddr none 3 (.tmp 94) (.tmp 95),none⟩,⟨(some 97), .fieldAddr (.tmp 96) 2,none⟩,⟨(some 98), .load none (.tmp 97),none⟩,⟨(some 99), .fieldAddr (.tmp 9) 2,none⟩,⟨none, .store 1 (.tmp 99) (.tmp 98),none⟩] []))))
theorem k0g {Kk:List Tr} {j:Nat} (hj:j < Kk.length):((Kk.take (j + 1)).map (·.s)).map nat=((Kk.take j).map (·.s)).map nat++[.int .i64 (Kk[j].s:Int)]:=by
 rw[List.take_succ_eq_append_getElem hj,List.map_append,List.map_append]
 rfl
theorem k5c {D:List AObj} {B:Nat} {t:Term} {gP gV g2 g3 g4 g5 i d clk:Nat} {N:AV} {P:List Pt} {Kk G:List Tr} {kv:AV} {o6 o7 o8 o9:AObj} {ts:Tmps} {ks:List Kf} {Q:Post} (hB:D.length=B) (hPl:P.length=t.length) (hPo:PartsOk P (i + 1) (Kk++G)) (hKd:∀ f∈Kk,f.dep≤d) (hd:d≤1000) (hKl:Kk.length≤2 ^ 20)
  (hrow:z7l kv=some Kk.length) (helem:∀ j (P:List Pt) o3 o4 o5 o6 o7 o8,j < Kk.length→q7u (D++[.blk gP (P.map ePt) true false 0, .blk gV [.agg [z0n t, .ob (B + 0) gP 0 t.length]] false false 0, .blk g2 [.ptr (B + 1) gV 0 0] false false 0,o3,o4,o5,o6,o7,o8,o9]) kv (Kk.length - 1 - j)=some (nat (i + 1 + z9q (Kk.take j))))
  (h4:ts 4= .ptr (B + 2) g2 0 0) (h9:ts 9= .ptr (B + 4) g4 0 0) (h10:ts 10= .ptr (B + 5) g5 0 0) (h64:ts 64= .bwd 294 kv)
  (hQ:∀ (dep:Nat) (u:Tip) (o6 o7:AObj) (clk':Nat),1≤dep→dep≤d + 1→K Gam B .skip ks ⟨ts,D++[.blk gP (P.map ePt) true false 0, .blk gV [.agg [z0n t, .ob (B + 0) gP 0 t.length]] false false 0, .blk g2 [.ptr (B + 1) gV 0 0] false false 0, .blk g3 [N] false false 0, .blk g4 [.agg [.int .i64 0, .int .i64 (dep:Int), .int .i64 ((i + 1 + z9q Kk:Nat):Int)]] false false 0, .blk g5 [.sl ((Kk.map (·.s)).map nat) u] false false 0,o6,o7,o8,o9],clk'⟩ Q):
  K Gam B (.rangeB (.tmp 64) 65 66 y6s y6t) ks ⟨ts,D++[.blk gP (P.map ePt) true false 0, .blk gV [.agg [z0n t, .ob (B + 0) gP 0 t.length]] false false 0, .blk g2 [.ptr (B + 1) gV 0 0] false false 0, .blk g3 [N] false false 0, .blk g4 [.agg [.int .i64 0, .int .i64 1, .int .i64 ((i + 1:Nat):Int)]] false false 0, .blk g5 [.sl [] .nil] false false 0,o6,o7,o8,o9],clk⟩ Q:=by
 refine k8t (f:=294) (n:=Kk.length) (v:=kv) (by simpa [AOpd.ev] using h64) hrow rfl (fun m h _=>∃ (dep:Nat) (u:Tip) (o6 o7:AObj),1≤dep∧dep≤d + 1∧h=D++[.blk gP (P.map ePt) true false 0, .blk gV [.agg [z0n t, .ob (B + 0) gP 0 t.length]] false false 0, .blk g2 [.ptr (B + 1) gV 0 0] false false 0, .blk g3 [N] false false 0, .blk g4 [.agg [.int .i64 0, .int .i64 (dep:Int), .int .i64 ((i + 1 + z9q (Kk.take (Kk.length - m)):Nat):Int)]] false false 0, .blk g5 [.sl (((Kk.take (Kk.length - m)).map (·.s)).map nat) u] false false 0,o6,o7,o8,o9]∧z9p B 7 o7 u 1) ?_ ?_ ?_
 ·refine⟨1, .nil,o6,o7,Nat.le_refl _,by omega, ?_, .inl rfl⟩
  rw[Nat.sub_self,List.take_zero]
  rfl
 ·rintro m h c Pq hm ⟨dep,u,o6,o7,hd1,hd2,rfl,hu⟩ hfin
  have hj:Kk.length - (m + 1) < Kk.length:=by omega
  have hjm:Kk.length - m=Kk.length - (m + 1) + 1:=by omega
  have hel:=helem (Kk.length - (m + 1)) P (.blk g3 [N] false false 0) (.blk g4 [.agg [.int .i64 0, .int .i64 (dep:Int), .int .i64 ((i + 1 + z9q (Kk.take (Kk.length - (m + 1))):Nat):Int)]] false false 0) (.blk g5 [.sl (((Kk.take (Kk.length - (m + 1))).map (·.s)).map nat) u] false false 0) o6 o7 o8 hj
  rw[show Kk.length - 1 - (Kk.length - (m + 1))=m by omega] at hel
  refine⟨_,hel, ?_⟩
  have hpo:=hPo (Kk.length - (m + 1)) Kk[Kk.length - (m + 1)] (by rw[List.getElem?_append_left hj];simp[hj])
  have htk:(Kk++G).take (Kk.length - (m + 1))=Kk.take (Kk.length - (m + 1)):=List.take_append_of_le_length (by omega)
  rw[htk] at hpo
  have hfd:=hKd _ (List.getElem_mem hj)
  have hls:=k5a hj
  have hss:=k0g hj
  rw[←hjm] at hls hss
  generalize Kk[Kk.length - (m + 1)]=f at hpo hfd hls hss
  generalize hst:i + 1 + z9q (Kk.take (Kk.length - (m + 1)))=st at hpo
  have hget:=x6u hpo
  dsimp only at hget
  have hix:∀ L,z1p (D++ .blk gP (P.map ePt) true false 0::L) 3 (.ob (B + 0) gP 0 t.length) (.int .i64 (st:Int))=some (.ptr (B + 0) gP st 0,D++ .blk gP (P.map ePt) true false 0::L):=fun L=>q9c hB hpo hPl
  have e1:IntKind.i64.wrap ((f.dep:Int) + 1)=((f.dep + 1:Nat):Int):=z0c (by omega) (by omega)
  have e2:(if ((f.dep + 1:Nat):Int) > (dep:Int) then ((f.dep + 1:Nat):Int) else (dep:Int))=((max dep (f.dep + 1):Nat):Int):=by split <;> omega
  simp only[go_sem,y6s,y6t,z1b,h4,h9,h10,hB,nat,hix,hget]
  rw[show [AV.int .i64 (f.s:Int)]=[f.s].map nat from rfl,z0s hB rfl hu z4l z4l (by simp only[List.length_map,List.length_singleton,List.length_take];omega)]
  have hst2:st + f.len=i + 1 + z9q (Kk.take (Kk.length - m)):=by omega
  simp only[go_sem,h4,h9,h10,hB,nat,hix,hget,e1,e2,←hss,hst2]
  exact⟨by simp[z1e,apart,z0l,z0z,z1i,AOp.isCall,hB],hfin _ ⟨max dep (f.dep + 1),_,_,_,by omega,by omega,rfl, .inr (.inr ⟨_,rfl,rfl⟩)⟩⟩
 ·rintro h c ⟨dep,u,o6,o7,hd1,hd2,rfl,hu⟩
  rw[Nat.sub_zero,List.take_length]
  exact hQ dep u o6 o7 c hd1 hd2
theorem k0h {D L:List AObj} {B gP i:Nat} {P:List Pt} {p q:Pt} (hB:D.length=B) (hi:P[i]? =some q):z9z (D++ .blk gP (P.map ePt) true false 0::L) 3 (.agg [.int .i64 (p.sort:Int), .int .i64 (p.depth:Int), .int .i64 (p.fin:Int)]) (.ptr (B + 0) gP i 0)=some (.undef,D++ .blk gP ((P.set i p).map ePt) true false 0::L):=by
 have hb:z2g (D++ .blk gP (P.map ePt) true false 0::L) (B + 0) gP=some (P.map ePt,true,false,0):=by rw[z7b hB];simp[z2g]
 have hp:∀ h:List AObj,pub h (.agg [.int .i64 (p.sort:Int), .int .i64 (p.depth:Int), .int .i64 (p.fin:Int)])=some (.agg [.int .i64 (p.sort:Int), .int .i64 (p.depth:Int), .int .i64 (p.fin:Int)],h):=fun h=>rfl
 have hg:(P.map ePt)[i]? =some (ePt q):=by rw[List.getElem?_map,hi];rfl
 rw[q0s,hb]
 simp only[hg,if_true,hp]
 rw[if_pos ⟨rfl,rfl,rfl,fun _=>⟨Nat.zero_le _,rfl⟩⟩]
 have:q0k (ePt q).cells 0 (AV.agg [.int .i64 (p.sort:Int), .int .i64 (p.depth:Int), .int .i64 (p.fin:Int)]).cells=some [.int .i64 (p.sort:Int), .int .i64 (p.depth:Int), .int .i64 (p.fin:Int)]:=rfl
 rw[this,Option.map_some,z5l hB,List.map_set]
 rfl
theorem k5d {D:List AObj} {B:Nat} {t:Term} {gP gV g2:Nat} {V:List Var} {n:Node} {ss:List Nat} {s d:Nat} {ksT pre post:Term} {Kk G:List Tr} {st:St} {ks:List Kf} {Q:Post} (hB:D.length=B) (hn:NodeOk V n ss s ksT) (hV:∀ v∈V,v∈U) (hk:n.kids=ss.length) (ht:t=pre++n::(ksT++post)) (hKs:Kk.map (·.s)=ss) (hKd:∀ f∈Kk,f.dep≤d) (hd:d≤1000) (hN:(Kk++G).length≤2 ^ 20) (htl:t.length≤2 ^ 20)
  (hst:j6v D B t gP gV g2 (pre.length + 1) (Kk++G) st)
  (hQ:∀ st' dep,dep≤d + 1→j6v D B t gP gV g2 pre.length (⟨s,1 + z9q Kk,dep⟩::G) st'→K Gam B (.loop q6b) ks st' Q):K Gam B (.loop q6b) ks st Q:=by
 obtain⟨ts,h,clk⟩:=st
 obtain⟨P,o3,o4,o5,o6,o7,o8,o9,hPl,hPo,h0,h4,h6,hr,rfl⟩:=hst
 dsimp only at h0 h4 h6 hr
 generalize hip:pre.length=i at *
 have hKlen:Kk.length=n.kids:=by rw[hk,←hKs,List.length_map]
 have hNl:(Kk++G).length=n.kids + G.length:=by rw[List.length_append,hKlen]
 have hss:ss.length≤2 ^ 20:=by omega
 have hti:t[i]? =some n:=by
  rw[ht,List.getElem?_append_right (by omega),show i - pre.length=0 by omega]
  rfl
 have hilt:i < t.length:=by
  rw[List.getElem?_eq_some_iff] at hti
  exact hti.1
 obtain⟨hlen,kv,rv,hkv,hrv,hrow,helem,happ⟩:=j3s (t:=t) (gP:=gP) (gV:=gV) (g2:=g2) hB hr hN
 simp only[z8e] at hkv hrv helem happ⊢
 generalize h5:ts 5=r5 at *
 have e0:((i + 1:Nat):Int) - 1=(i:Int):=by omega
 rw[e0] at h6
 have e1:decide ((0:Int)≤(i:Int))=true:=by rw[decide_eq_true_iff];omega
 have e2:decide ((n.kids:Int) < 0)=false:=by rw[decide_eq_false_iff_not];omega
 have e3:decide (((Kk++G).length:Int) < (n.kids:Int))=false:=by rw[decide_eq_false_iff_not];omega
 have e4:IntKind.i64.wrap (((Kk++G).length:Int) - (n.kids:Int))=(G.length:Int):=by rw[z0c (by omega) (by omega)];omega
 have e5:IntKind.i64.wrap ((i:Int) + 1)=((i + 1:Nat):Int):=z0c (by omega) (by omega)
 have e6:IntKind.i64.wrap ((i:Int) - 1)=(i:Int) - 1:=z0c (by omega) (by omega)
 have h249:Pure Gam 189 [.agg [.int .i64 (n.op:Int), .int .i64 (n.sort:Int), .str n.name, .str n.num, .int .i64 (n.kids:Int)]] (.bool true):=w4c hn hV
 have h250:Pure Gam 190 [.int .i64 (n.op:Int), .int .i64 (n.kids:Int)] (.bool true):=w4d hn
 rw[z0n] at h0
 refine z2h ?_
 simp only[go_sem,q6b,h0,h4,h5,h6,hB,e1,z2q hti,e2,hlen,e3,z0a h249,z0a h250,Bool.not_true,e4,e5,hkv,y6r hrow]
 refine k5c (P:=P) hB hPl hPo hKd hd (by omega) hrow helem (by simp[z0b,h4]) (by simp[z0b]) (by simp[z0b]) (by simp[z0b]) ?_
 intro dep u o6 o7 clk' hd1 hd2
 have h252:∀ u,Pure Gam 191 [.agg [.int .i64 (n.op:Int), .int .i64 (n.sort:Int), .str n.name, .str n.num, .int .i64 (n.kids:Int)], .sl (ss.map nat) u] (.int .i64 (s:Int)):=fun u=>w4e hn hss
 have hs:=hn.pos hV
 have e7:decide ((s:Int)=0)=false:=by rw[decide_eq_false_iff_not];omega
 obtain⟨q,hq⟩:∃ q,P[i]? =some q:=⟨P[i],by simp[hPl,hilt]⟩
 have happ':=fun P o3 o4 o5 o6 o7 g8 gen=>happ ⟨s,1 + z9q Kk,dep⟩ P o3 o4 o5 o6 o7 g8 gen rfl
 have hPo':=PartsOk.node (s:=s) (dep:=dep) hPo (by omega)
 have hst:=fun L=>k0h (L:=L) (B:=B) (gP:=gP) (p:=⟨s,dep,i + 1 + z9q Kk⟩) hB hq
 simp only at hst
 simp only[nat] at happ'
 have fin:∀ (ts':Tmps) (P':List Pt) (o3 o4 o5 o6 o7 o8:AObj) (gen clk':Nat),P'=P.set i ⟨s,dep,i + 1 + z9q Kk⟩→ts' 0= .sl (t.map eNode) .no→ts' 4= .ptr (B + 2) g2 0 0→ts' 5= .ob (B + 9) gen 0 (G.length + 1)→ts' 6= .int .i64 ((i:Int) - 1)→
   K Gam B (.loop q6b) ks ⟨ts',z8e D B t gP gV g2 P' o3 o4 o5 o6 o7 o8 (.blk gen ((z4n i (⟨s,1 + z9q Kk,dep⟩::G)).reverse.map nat) true true 0),clk'⟩ Q:=by
  intro ts' P' o3 o4 o5 o6 o7 o8 gen clk' hP' q0 q4 q5 q6
  refine hQ _ dep hd2 ⟨P',_,_,_,_,_,_,_,by rw[hP',List.length_set];exact hPl, ?_,q0,q4,q6, .inr ⟨by simp,gen,q5,rfl⟩,rfl⟩
  rw[hP',Nat.add_assoc]
  exact hPo'
 by_cases h15:n.op=15
 ·obtain⟨m,r,hmr,hm3⟩:=hn.mul_num h15
  have ht1:t[i + 1]? =some m:=by
   rw[ht,List.getElem?_append_right (by omega),show i + 1 - pre.length=1 by omega,hmr]
   rfl
  have f1:decide ((n.op:Int)=15)=true:=by rw[decide_eq_true_iff];omega
  have f2:decide ((m.op:Int)=3)=true:=by rw[decide_eq_true_iff];omega
  simp only[go_sem,h0,h4,h5,h6,hB,hKs,z0a (h252 _),e7,f1,e5,z2q ht1,f2,Bool.not_true,q9c hB hq hPl,hst,hlen,e4,hrv,happ',e6]
  exact fin _ _ _ _ _ _ _ _ _ _ rfl (by simp[z0b,h0]) (by simp[z0b,h4]) (by simp[z0b]) (by simp[z0b])
 ·have f1:decide ((n.op:Int)=15)=false:=by rw[decide_eq_false_iff_not];omega
  simp only[go_sem,h0,h4,h5,h6,hB,hKs,z0a (h252 _),e7,f1,q9c hB hq hPl,hst,hlen,e4,hrv,happ',e6]
  exact fin _ _ _ _ _ _ _ _ _ _ rfl (by simp[z0b,h0]) (by simp[z0b,h4]) (by simp[z0b]) (by simp[z0b])
end
def RVG (x:Option (List AV)) (R:AV→List AObj→Prop) (h:List AObj):Prop:=
 match x with
 | some vs=>(z1l vs).obs=[]∧R (z1l vs).cv h
 | none=>False
def u5u (rs:List ARes) (R:AV→List AObj→Prop):Post:=fun e s=>(∀ i,e≠ .exit i)∧RVG (z1y s.h s.ts rs) R s.h
theorem v1o {rs:List ARes} {R:AV→List AObj→Prop} {ts:Tmps} {h:List AObj} {c:Nat}:u5u rs R .ret ⟨ts,h,c⟩=RVG (z1y h ts rs) R h:=by simp[u5u]
theorem q6g {vs:List AV} {R:AV→List AObj→Prop} {h:List AObj} (ho:(z1l vs).obs=[]):RVG (some vs) R h=R (z1l vs).cv h:=by simp[RVG,ho]
attribute [go_sem] v1o
theorem x1p {f:Nat} {args az:List AV} {h:List AObj} {clk:Nat} {af:AFun} {Q:AV→List AObj→Nat→Prop} (hext:Gam.ext f=none) (hfn:Gam.fn f=some af) (hb:af.byref=[]) (ho:af.owned=false) (hobs:z4r args=[]) (has:cvL args=az) (hids:idsL az=[])
  (hw:∀ (D:List AObj) (B:Nat) (R:AV→List AObj→Prop),D.length=B→B=h.length→(∀ v L',(∃ i∈v.ids,B≤i)→(∀ c,Q v (h++L') c)→R v (D++L'))→K Gam B af.body [] ⟨q0m az,D++List.replicate af.nslots .dead,clk⟩ (u5u af.results R)):WC Gam f args h clk Q:=by
 obtain⟨k,e,s,he,hne,hend⟩:=hw (maskFrom [] 0 h) h.length (fun v h'=>(∃ i∈v.ids,h.length≤i)∧∀ c,Q v (h++h'.drop h.length) c) (z4g) rfl (fun v L' hi hq=>⟨hi,by
  rw[List.drop_left' z4g]
  exact hq⟩)
 have hp:z1v h af.byref 0 args=some az:=by rw[hb,z1o hobs,has]
 have hl:z0u af.byref 0 args=[]:=by rw[hb];exact z4u hobs
 unfold RVG at hend
 split at hend
 ·rename_i vs hr
  obtain⟨hob,⟨i,hi1,hi2⟩,hq⟩:=hend
  have hc:=q6v (h:=s.h) hob
  refine⟨k,(z1l vs).cv,h++s.h.drop h.length,s.clk, ?_,hq _⟩
  have hall:((z1l vs).cv.ids.all fun x=>decide (x < h.length))=false:=by
   rw[List.all_eq_false]
   exact⟨i,hi1,by simp;omega⟩
  unfold z5g z0o
  simp only[hext,hfn,hp,hl,freezeAll,hids,reach,he,ho,Bool.false_eq_true,if_false,hr,hc,hob,z6i,List.map_nil,List.flatten_nil,List.append_nil,ite_self]
  cases e with
  | exit i=>exact absurd rfl (hne i)
  | norm=>simp[hall]
  | ret=>simp[hall]
 ·exact hend.elim
theorem z5x {f base gg clk:Nat} {args:List AV} {h:List AObj} {dst:Option Nat} {os:List AOper} {ts:Tmps} {ks:List Kf} {Q:Post} (hw:WC Gam f args h clk fun v h' c=>O Gam base .plain (gg + 1) os ⟨z9n ts dst v,h',c⟩ ks Q):CK Gam base f args h clk .plain dst gg os ts ks Q:=hw
section
variable {U:List Var} [UOk U]
theorem j3t {D:List AObj} {B:Nat} {t:Term} {gP gV g2:Nat} {V:List Var} {ks:List Kf} {Q:Post} (hB:D.length=B) (hV:∀ v∈V,v∈U) (htl:t.length≤2 ^ 19) {ss:List Nat} {d:Nat} {u:Term} (h:WF V ss d u):∀ {pre post:Term} {G:List Tr} {st:St},d≤1000→t=pre++(u++post)→G.length≤post.length→j6v D B t gP gV g2 (pre.length + u.length) G st→
  (∀ st' Fu,Fu.map (·.s)=ss→z9q Fu=u.length→Fu.length≤u.length→(∀ f∈Fu,f.dep≤d)→j6v D B t gP gV g2 pre.length (Fu++G) st'→K Gam B (.loop q6b) ks st' Q)→K Gam B (.loop q6b) ks st Q:=by
 induction h with
 | nil=>
   intro pre post G st _ _ _ hst hQ
   exact hQ st [] rfl rfl (by simp) (by simp) (by simpa using hst)
 | @cons n ss ks' s d ss' rest h1 h2 h3 h4 ih1 ih2=>
   intro pre post G st hd ht hG hst hQ
   have e1:t=(pre++n::ks')++(rest++post):=by rw[ht];simp
   refine ih2 (pre:=pre++n::ks') (post:=post) hd e1 hG (by
    have e:pre.length + (n::(ks'++rest)).length=(pre++n::ks').length + rest.length:=by simp;omega
    rw[←e]
    exact hst) fun st1 Fr hr1 hr2 hr2' hr3 hr4=> ?_
   have e2:t=(pre++[n])++(ks'++(rest++post)):=by rw[ht];simp
   have hlen:=congrArg List.length ht
   simp only[List.length_append,List.length_cons] at hlen
   refine ih1 (pre:=pre++[n]) (post:=rest++post) (G:=Fr++G) (by omega) e2 (by simp only[List.length_append];omega) (by
    have e:(pre++n::ks').length=(pre++[n]).length + ks'.length:=by simp;omega
    rw[←e]
    exact hr4) fun st2 Fk hk1 hk2 hk2' hk3 hk4=> ?_
   refine k5d (t:=t) (pre:=pre) (post:=rest++post) (Kk:=Fk) (G:=Fr++G) hB h2 hV h3 (by rw[ht];simp) hk1 hk3 (by omega) (by simp only[List.length_append];omega) (by omega) (by simpa using hk4) fun st3 dep hd3 hst3=> ?_
   refine hQ st3 (⟨s,1 + z9q Fk,dep⟩::Fr) (by simp[hr1]) ?_ ?_ ?_ (by simpa using hst3)
   ·rw[q6e,hk2,hr2];simp;omega
   ·simp only[List.length_cons,List.length_append];omega
   ·intro f hf
    rw[List.mem_cons] at hf
    rcases hf with rfl | hf
    ·exact hd3
    ·exact hr3 f hf
theorem u5v {V:List Var} {s d:Nat} {t:Term} {u:Tip} {h:List AObj} {clk:Nat} {Q:AV→List AObj→Nat→Prop} (ht:WF V [s] d t) (hV:∀ v∈V,v∈U) (hl:t.length≤20000) (hd:d≤1000)
  (hQ:∀ gP gV g2 P dep o3 o4 o5 o6 o7 o8 o9 c,P.length=t.length→P[0]? =some ⟨s,dep,t.length⟩→dep≤d→Q (.tup [.ptr (h.length + 1) gV 0 0, .bool true]) (z8e h h.length t gP gV g2 P o3 o4 o5 o6 o7 o8 o9) c):WC Gam 192 [.sl (t.map eNode) u] h clk Q:=by
 refine x1p rfl u4l rfl rfl rfl (az:=[z0n t]) rfl (by simp[idsL,z3n]) fun D B R hB hBh hR=> ?_
 have hms:∀ h s g,msV h s g (.agg [.int .i64 0, .int .i64 0, .int .i64 0]) 24 (.int .i64 (t.length:Int)) (.int .i64 (t.length:Int))=some (.ob s g 0 t.length,h.set s (.blk g (List.replicate t.length (.agg [.int .i64 0, .int .i64 0, .int .i64 0])) true false 0)):=fun h s g=>q5x rfl (by omega)
 have hrep:List.replicate t.length (AV.agg [.int .i64 0, .int .i64 0, .int .i64 0])=(List.replicate t.length (⟨0,0,0⟩:Pt)).map ePt:=by rw[List.map_replicate];rfl
 have e0:IntKind.i64.wrap ((t.length:Int) - 1)=(t.length:Int) - 1:=z0c (by omega) (by omega)
 simp only[go_sem,y5j,hB,z0n,List.length_map,hms,hrep,e0]
 refine j3t (pre:=[]) (post:=[]) (G:=[]) hB hV (by omega) ht hd (by simp) (by simp) ⟨List.replicate t.length ⟨0,0,0⟩,_,_,_,_,_,_,_,by simp,PartsOk.nil,by simp[z0b,z2y,z0n],by simp[z0b],by simp[z0b], .inl ⟨rfl,by simp[z0b]⟩,rfl⟩ ?_
 rintro ⟨ts,h',clk'⟩ Fu hF1 hF2 hF3 hF4 ⟨P,o3,o4,o5,o6,o7,o8,o9,hPl,hPo,h0,h4,h6,hr,rfl⟩
 dsimp only at h0 h4 h6 hr
 obtain⟨f,rfl⟩:∃ f,Fu=[f]:=by
  match Fu,hF1 with
  | [f],_=>exact⟨f,rfl⟩
 have hfs:f.s=s:=by simpa using hF1
 have hfl:f.len=t.length:=by simpa [z9q] using hF2
 rcases hr with ⟨hbad,_⟩ | ⟨_,g,h5,ho9⟩
 ·simp at hbad
 have hp0:=hPo 0 f (by simp)
 rw[hfs,hfl] at hp0
 have hp0':P[0]? =some ⟨s,f.dep,t.length⟩:=by simpa [z9q] using hp0
 have e1:decide ((0:Int)≤ -1)=false:=by decide
 have h6':ts 6= .int .i64 (-1):=by rw[h6];rfl
 refine z2h ?_
 simp only[go_sem,q6b,h6',e1,h4,h5,z8e,hB,z0n,decide_true]
 rw[q6g rfl]
 refine hR _ _ ⟨B + 1,by simp[z1l,AV.cv,cvL,AV.ids,idsL],by omega⟩ fun c=> ?_
 have:=fun gP gV g2=>hQ gP gV g2 P f.dep o3 o4 o5 o6 o7 o8 o9 c hPl hp0' (hF4 f (by simp))
 simp only[←hBh,z8e,z0n] at this
 exact this _ _ _
end
section
variable {U:List Var} [UOk U]
theorem WF.nodes {V:List Var} {ss:List Nat} {d:Nat} {t:Term} (h:WF V ss d t):∀ n∈t,∃ ss' s' ks,NodeOk V n ss' s' ks:=by
 induction h with
 | nil=>simp
 | cons h1 h2 h3 h4 ih1 ih2=>
   intro n hn
   rw[List.mem_cons,List.mem_append] at hn
   rcases hn with rfl | hn | hn
   ·exact⟨_,_,_,h2⟩
   ·exact ih1 n hn
   ·exact ih2 n hn
theorem NodeOk.name {V:List Var} {n:Node} {ss:List Nat} {s:Nat} {ks:Term} (hn:NodeOk V n ss s ks):n.op≠5∧(n.op=4→∃ v∈V,n.name=v.name∧n.sort=v.sort):=by
 cases hn with
 | var h=>exact⟨by simp,fun _=>⟨_,h,rfl,rfl⟩⟩
 | bool h=>exact⟨by simp[bare];omega,fun e=>by simp[bare] at e;omega⟩
 | andor h=>exact⟨by simp[bare];omega,fun e=>by simp[bare] at e;omega⟩
 | cmp h hs=>exact⟨by simp[bare];omega,fun e=>by simp[bare] at e;omega⟩
 | div h _ _=>exact⟨by simp;omega,fun e=>by simp at e;omega⟩
 | _=>exact⟨by simp[bare],fun e=>by simp[bare] at e⟩
def x1q (V:List Var) (t:Term):Prop:=∀ n∈t,n.op≠5∧(n.op=4→∃ v∈V,n.name=v.name∧n.sort=v.sort)
theorem WF.names {V:List Var} {ss:List Nat} {d:Nat} {t:Term} (h:WF V ss d t):x1q V t:=fun n hn=>by
 obtain⟨_,_,_,h⟩:=h.nodes n hn
 exact h.name
def z3a:Term→List Var→List Var
 | [],acc=>acc
 | n::t,acc=>if n.op=4∧(⟨n.name,n.sort⟩:Var)∉acc then z3a t (acc++[⟨n.name,n.sort⟩]) else z3a t acc
theorem q1b {V:List Var}:∀ {t:Term} {acc:List Var},x1q V t→(∀ v∈acc,v∈V)→∀ v∈z3a t acc,v∈V
 | [],acc,_,ha,v,hv=>ha v hv
 | n::t,acc,hn,ha,v,hv=>by
   have ht:x1q V t:=fun m hm=>hn m (List.mem_cons_of_mem _ hm)
   simp only[z3a] at hv
   split at hv
   ·rename_i hc
    refine q1b ht (fun w hw=> ?_) v hv
    rw[List.mem_append,List.mem_singleton] at hw
    rcases hw with hw | rfl
    ·exact ha w hw
    ·obtain⟨v',hv',e1,e2⟩:=(hn n List.mem_cons_self).2 hc.1
     rw[e1,e2]
     exact hv'
   ·exact q1b ht ha v hv
theorem x6v {t u:Term} {acc:List Var}:z3a (t++u) acc=z3a u (z3a t acc):=by
 induction t generalizing acc with
 | nil=>rfl
 | cons n t ih=>
   simp only[List.cons_append,z3a]
   split
   ·exact ih
   ·exact ih
theorem q1c:∀ {t:Term} {acc:List Var},(z3a t acc).length≤acc.length + t.length
 | [],acc=>Nat.le_refl _
 | n::t,acc=>by
   simp only[z3a,List.length_cons]
   split
   ·have:=q1c (t:=t) (acc:=acc++[⟨n.name,n.sort⟩])
    simp at this
    omega
   ·have:=q1c (t:=t) (acc:=acc)
    omega
theorem x6w {v w:Var} (hv:v∈U) (hw:w∈U) (h:v.name=w.name):v=w:=UOk.inj v hv w hw h
def q3a (acc:List Var):List (AV×AV):=acc.map fun v=>(.str v.name,z1h v)
theorem q8j {v:Var} (hv:v∈U):∀ {acc:List Var},(∀ w∈acc,w∈U)→findKey (.one .str) (.str v.name) (q3a acc)=some (if v∈acc then some (z1h v) else none)
 | [],_=>rfl
 | w::acc,ha=>by
   have ih:=q8j hv (acc:=acc) fun x hx=>ha x (List.mem_cons_of_mem _ hx)
   unfold q3a at ih⊢
   simp only[List.map_cons,findKey,AV.eqv,AV.eq1]
   by_cases h:v=w
   ·subst h
    simp
   ·have hne:decide (v.name=w.name)=false:=decide_eq_false fun e=>h (x6w hv (ha w List.mem_cons_self) e)
    simp only[hne,ih,List.mem_cons,h,false_or]
theorem x1r {v:Var} (hv:v∈U):∀ {acc:List Var},(∀ w∈acc,w∈U)→v∉acc→z7t (.one .str) (.str v.name) (z1h v) (q3a acc)=some (q3a (acc++[v]))
 | [],_,_=>rfl
 | w::acc,ha,hn=>by
   rw[List.mem_cons,not_or] at hn
   have ih:=x1r hv (acc:=acc) (fun x hx=>ha x (List.mem_cons_of_mem _ hx)) hn.2
   have hne:decide (v.name=w.name)=false:=decide_eq_false fun e=>hn.1 (x6w hv (ha w List.mem_cons_self) e)
   unfold q3a at ih⊢
   simp only[List.map_cons,List.cons_append,z7t,AV.eqv,AV.eq1,hne,ih,Option.map_some]
theorem x1s {h:List AObj} {z:AV} {es:List (AV×AV)} {s:List Nat} {r:Option AV} (hf:findKey (.one .str) (.str s) es=some r):lkV h (.one .str) z true (some es) (.str s)=some (q8q true z r,h):=by
 have:((AV.str s).eqv (.one .str) (.str s)).isSome=true:=by simp[AV.eqv,AV.eq1]
 simp only[lkV,this,if_true,hf,Option.map_some]
theorem w4f {h:List AObj} {z:AV} {es:List (AV×AV)} {s:List Nat} {r:Option AV} (hf:findKey (.one .str) (.str s) es=some r):lkV h (.one .str) z false (some es) (.str s)=some (q8q false z r,h):=by
 have:((AV.str s).eqv (.one .str) (.str s)).isSome=true:=by simp[AV.eqv,AV.eq1]
 simp only[lkV,this,if_true,hf,Option.map_some]
theorem x4s {z v:AV}:q8q true z (some v)= .tup [v, .bool true]:=(rfl)
theorem q1d {z:AV}:q8q true z none= .tup [z, .bool false]:=(rfl)
theorem z9j {z v:AV}:q8q false z (some v)=v:=(rfl)
theorem z5p {z:AV}:q8q false z none=z:=(rfl)
theorem z3v {h:List AObj} {s g:Nat}:x8e h (.mp s g)=z5q h s g:=(rfl)
theorem j0n {D L:List AObj} {B k g:Nat} {es es':List (AV×AV)} {s:List Nat} {v:AV} (hB:D.length=B) (hm:z5q L k g=some es) (ho:v.obs=[]) (hp:z7t (.one .str) (.str s) v.cv es=some es'):muV (D++L) (.one .str) (.str s) v (.mp (B + k) g)=some (.undef,D++L.set k (.map g es')):=by
 have hpub:pub (D++L) v=some (v.cv,D++L):=by simp only[pub,q6v ho,Option.map_some,ho,freezeAll]
 have:((AV.str s).eqv (.one .str) (.str s)).isSome=true:=by simp[AV.eqv,AV.eq1]
 simp only[muV,x6c hB,hm,hpub,this,if_true,hp,Option.map_some,z5l hB]
end
section
variable {U:List Var} [UOk U]
def q7f (gV:Nat) (t:Term) (sP gP:Nat):AObj:= .blk gV [.agg [z0n t, .ob sP gP 0 t.length]] false false 0
def j6w (gP:Nat) (P:List Pt):AObj:= .blk gP (P.map ePt) true false 0
def x2z (s sP gV gP:Nat) (t:Term) (P:List Pt):List (Nat×AObj):=[(s,q7f gV t sP gP),(sP,j6w gP P)]
theorem j6x {s sP gV gP:Nat} {t:Term} {P:List Pt}:Cov (x2z s sP gV gP t P) [s]:=by
 refine Cov.two ?_ ?_
 ·simp[q7f,AObj.ids,idsL,AV.ids,z3n]
 ·simp[j6w,AObj.ids,z0d (f:=ePt) fun _=>rfl]
theorem v1p {s sP gV gP:Nat} {t:Term} {P:List Pt} {p:Pt} (hl:t.length≤20000) (hP:P[0]? =some p) (hd:p.depth≤257) (hPl:P.length=t.length):Reads (x2z s sP gV gP t P) 194 [.ptr s gV 0 0] (.bool false):=by
 refine Reads.of rfl u4m rfl rfl rfl rfl j6x fun D B clk T hB hS hlt hT=> ?_
 have h1:=hlt (s,q7f gV t sP gP) (by simp[x2z])
 have h2:=hlt (sP,j6w gP P) (by simp[x2z])
 have b1:=z5m (g:=gV) (hS (s,q7f gV t sP gP) (by simp[x2z]))
 have b2:=z5m (g:=gP) (hS (sP,j6w gP P) (by simp[x2z]))
 dsimp only at h1 h2 b1 b2
 have hpos:0 < t.length:=by
  rw[←hPl]
  rw[List.getElem?_eq_some_iff] at hP
  exact hP.1
 have hg:(P.map ePt)[0]? =some (.agg [.int .i64 (p.sort:Int), .int .i64 (p.depth:Int), .int .i64 (p.fin:Int)]):=x6u hP
 have hix:∀ L,z1p (D++L) 3 (.ob sP gP 0 t.length) (.int .i64 0)=some (.ptr sP gP 0 0,D++L):=fun L=>by
  have:z2g (D++L) sP gP=some (P.map ePt,true,false,0):=by rw[z3m hB h2,b2]
  simp only[z1p,Int.le_refl,if_true,this,Int.toNat_zero,Nat.add_zero,hg]
  rw[if_pos ⟨hpos,rfl⟩]
 have e1:decide ((20000:Int) < (t.length:Int))=false:=by rw[decide_eq_false_iff_not];omega
 have e2:decide ((257:Int) < (p.depth:Int))=false:=by rw[decide_eq_false_iff_not];omega
 simp only[go_sem,y5k,z3m hB h1,b1,z3m hB h2,b2,z0n,List.length_map,e1,hix,hg,e2]
 rw[z0e]
 exact hT _ hS.app
theorem x6x {s sP gV gP:Nat} {t:Term} {P:List Pt} {V:List Var} (hl:t.length≤20000) (hn:x1q V t) (hV:∀ v∈V,v∈U):Reads (x2z s sP gV gP t P) 193 [.ptr s gV 0 0] (.tup [.sl ((z3a t []).map z1h) .no, .sl [] .no, .bool true]):=by
 refine Reads.of rfl u4k rfl rfl rfl rfl j6x fun D B clk T hB hS hlt hT=> ?_
 have h1:=hlt (s,q7f gV t sP gP) (by simp[x2z])
 have b1:=z5m (g:=gV) (hS (s,q7f gV t sP gP) (by simp[x2z]))
 dsimp only at h1 b1
 simp only[go_sem,y5i,hB,z3m hB h1,b1,z0n,List.length_map]
 refine z1f (fun m q=>∃ (i:Nat) (u:Tip) (g0 g1:Nat) (o2 o3 o4 o5 o6 o7 o8 o9 o10 o11:AObj),i≤t.length∧m=t.length - i∧q.ts 5= .mp (B + 0) g0∧q.ts 6= .mp (B + 1) g1∧q.ts 7= .sl ((z3a (t.take i) []).map z1h) u∧q.ts 8= .sl [] .nil∧q.ts 25= .sl (t.map eNode) .no∧q.ts 26= .int .i64 (t.length:Int)∧q.ts 27= .int .i64 (i:Int)∧q.h=D++[.map g0 (q3a (z3a (t.take i) [])), .map g1 [],o2,o3,o4,o5,o6,o7,o8,o9,o10,o11]∧z9p B 5 o5 u 2) t.length ⟨0, .nil,_,_,_,_,_,_,_,_,_,_,_,_,by omega,rfl,rfl,rfl,rfl,rfl,rfl,rfl,rfl,rfl, .inl rfl⟩ ?_
 rintro m ⟨ts,h,clk⟩ Pq ⟨i,u,g0,g1,o2,o3,o4,o5,o6,o7,o8,o9,o10,o11,hi,rfl,q5,q6,q7,q8,q25,q26,q27,rfl,hu⟩ hnx he hr
 dsimp only at q5 q6 q7 q8 q25 q26 q27
 have hacc:∀ v∈z3a (t.take i) [],v∈V:=q1b (fun n hn'=>hn n (List.mem_of_mem_take hn')) (by simp)
 by_cases hlt':i < t.length
 ·have e1:decide ((i:Int) < (t.length:Int))=true:=by rw[decide_eq_true_iff];omega
  have e2:IntKind.i64.wrap ((i:Int) + 1)=((i + 1:Nat):Int):=z0c (by omega) (by omega)
  have hti:t[i]? =some t[i]:=by simp[hlt']
  obtain⟨hn5,hn4⟩:=hn _ (List.getElem_mem hlt')
  have htake:t.take (i + 1)=t.take i++[t[i]]:=List.take_succ_eq_append_getElem hlt'
  generalize t[i]=n at hti hn5 hn4 htake
  have hvo:z3a (t.take (i + 1)) []=if n.op=4∧(⟨n.name,n.sort⟩:Var)∉z3a (t.take i) [] then z3a (t.take i) []++[⟨n.name,n.sort⟩] else z3a (t.take i) []:=by
   rw[htake,x6v]
   simp only[z3a]
  by_cases h4:n.op=4
  ·obtain⟨v,hv,e3,e4⟩:=hn4 h4
   have hfk:=q8j (hV v hv) (acc:=z3a (t.take i) []) fun w hw=>hV w (hacc w hw)
   have hf0:findKey (.one .str) (.str v.name) []=some none:=rfl
   have f4:decide ((n.op:Int)=4)=true:=by rw[decide_eq_true_iff];omega
   have hve:(⟨n.name,n.sort⟩:Var)=v:=by rw[e3,e4]
   rw[hve] at hvo
   by_cases hin:v∈z3a (t.take i) []
   ·rw[if_pos hin] at hfk
    rw[if_neg (fun hc=>hc.2 hin)] at hvo
    simp only[go_sem,x4j,q5,q6,q7,q8,q25,q26,q27,hB,e1,z2q hti,f4,e3,e4,z3v,x1s hfk,x1s hf0,x4s,q1d,z1h,nat,Bool.not_true,decide_true,e2]
    rw[←hvo] at q7⊢
    exact hnx (t.length - (i + 1)) _ (by omega) ⟨i + 1,u,g0,g1,_,_,_,_,_,_,_,_,_,_,hlt',rfl,q5,q6,q7,q8,q25,q26,rfl,rfl,hu⟩
   ·rw[if_neg hin] at hfk
    rw[if_pos ⟨h4,hin⟩] at hvo
    have hput:=x1r (hV v hv) (acc:=z3a (t.take i) []) (fun w hw=>hV w (hacc w hw)) hin
    have hmu:∀ L:List AObj,z5q L 0 g0=some (q3a (z3a (t.take i) []))→muV (D++L) (.one .str) (.str v.name) (.agg [.str v.name, .int .i64 (v.sort:Int)]) (.mp (B + 0) g0)=some (.undef,D++L.set 0 (.map g0 (q3a (z3a (t.take i) []++[v])))):=fun L hL=>j0n (v:=z1h v) hB hL rfl hput
    have hlen:(z3a (t.take i) []).length≤20000:=by
     have:=q1c (t:=t.take i) (acc:=[])
     rw[List.length_take] at this
     simp only[List.length_nil] at this
     omega
    simp only[go_sem,x4j,q5,q6,q7,q8,q25,q26,q27,hB,e1,z2q hti,f4,e3,e4,z3v,x1s hfk,q1d,Bool.not_false,hmu]
    have e8:(z3a (t.take i) []).map z1h++[AV.agg [AV.str v.name,AV.int .i64 (v.sort:Int)]]=(z3a (t.take (i + 1)) []).map z1h:=by rw[hvo,List.map_append];rfl
    rw[show [AV.agg [AV.str v.name,AV.int .i64 (v.sort:Int)]]=[v].map z1h from rfl,z0s hB rfl hu z3e z3e (by simp only[List.length_map,List.length_singleton];omega)]
    simp only[go_sem,q5,q6,q7,q8,q25,q26,q27,hB,z3v,x1s hf0,q1d,decide_true,Bool.not_true,e2,z1h,nat,e8,←hvo]
    exact hnx (t.length - (i + 1)) _ (by omega) ⟨i + 1,_,g0,g1,_,_,_,_,_,_,_,_,_,_,hlt',rfl,q5,q6,rfl,q8,q25,q26,rfl,rfl, .inr (.inr ⟨_,rfl,rfl⟩)⟩
  ·rw[if_neg (fun hc=>h4 hc.1)] at hvo
   have f4:decide ((n.op:Int)=4)=false:=by rw[decide_eq_false_iff_not];omega
   have f5:decide ((n.op:Int)=5)=false:=by rw[decide_eq_false_iff_not];omega
   simp only[go_sem,x4j,q5,q6,q7,q8,q25,q26,q27,hB,e1,z2q hti,f4,f5,e2]
   rw[←hvo] at q7⊢
   exact hnx (t.length - (i + 1)) _ (by omega) ⟨i + 1,u,g0,g1,_,_,_,_,_,_,_,_,_,_,hlt',rfl,q5,q6,q7,q8,q25,q26,rfl,rfl,hu⟩
 ·have e1:decide ((i:Int) < (t.length:Int))=false:=by rw[decide_eq_false_iff_not];omega
  have hti:t.take i=t:=List.take_of_length_le (by omega)
  rw[hti] at q7
  simp only[go_sem,x4j,q5,q6,q7,q8,q25,q26,q27,hB,e1]
  refine he _ _ ?_
  simp only[go_sem,q7,q8]
  rw[z0g rfl (by simp[z1l,AV.cv,cvL,AV.ids,idsL,z0d (f:=z1h) fun _=>rfl])]
  exact hT _ hS.app
end
section
variable {U:List Var} [UOk U]
theorem x6y {D:List AObj} {B:Nat} {t:Term} {gP gV g2:Nat} {P:List Pt} {o3 o4 o5 o6 o7 o8 o9:AObj} (hB:D.length=B):Has (x2z (B + 1) (B + 0) gV gP t P) (z8e D B t gP gV g2 P o3 o4 o5 o6 o7 o8 o9):=by
 refine Has.cons ?_ (Has.cons ?_ Has.nil)
 ·simp only[z8e,z6c hB];rfl
 ·simp only[z8e,z6c hB];rfl
theorem WF.pos {V:List Var} {s d:Nat} {t:Term} (h:WF V [s] d t):0 < t.length:=by
 cases h with
 | cons=>simp
theorem w4g {V:List Var} {s d:Nat} {t:Term} {u:Tip} {h:List AObj} {clk:Nat} {Q:AV→List AObj→Nat→Prop} (ht:WF V [s] d t) (hV:∀ v∈V,v∈U) (hl:t.length≤20000) (hd:d≤257)
  (hQ:∀ gP gV g2 P dep o3 o4 o5 o6 o7 o8 o9 c,P.length=t.length→P[0]? =some ⟨s,dep,t.length⟩→dep≤d→Q (.tup [.ptr (h.length + 1) gV 0 0, .bool true]) (z8e h h.length t gP gV g2 P o3 o4 o5 o6 o7 o8 o9) c):WC Gam 226 [.sl (t.map eNode) u] h clk Q:=by
 refine x1p rfl u4j rfl rfl rfl (az:=[.sl (t.map eNode) .no]) rfl (by simp[idsL,AV.ids,z0d z2i]) fun D B R hB hBh hR=> ?_
 have hpos:=ht.pos
 have e1:decide ((t.length:Int)=0)=false:=by rw[decide_eq_false_iff_not];omega
 have e2:decide ((20000:Int) < (t.length:Int))=false:=by rw[decide_eq_false_iff_not];omega
 simp only[go_sem,y5h,hB,List.length_map,e1,e2,List.append_nil]
 refine z5x (u5v ht hV hl (by omega) fun gP gV g2 P dep o3 o4 o5 o6 o7 o8 o9 c hPl hp hdep=> ?_)
 rw[hB]
 have r1:=v1p (s:=B + 1) (sP:=B + 0) (gV:=gV) (gP:=gP) hl hp (by dsimp only;omega) hPl
 have r2:=x6x (s:=B + 1) (sP:=B + 0) (gV:=gV) (gP:=gP) (P:=P) hl ht.names hV
 have hh:=x6y (t:=t) (gP:=gP) (gV:=gV) (g2:=g2) (P:=P) (o3:=o3) (o4:=o4) (o5:=o5) (o6:=o6) (o7:=o7) (o8:=o8) (o9:=o9) hB
 simp only[go_sem,Bool.not_true,z0x r1 hh,z0x r2 hh]
 rw[q6g rfl]
 have:=fun gP gV g2 c=>hQ gP gV g2 P dep o3 o4 o5 o6 o7 o8 o9 c hPl hp hdep
 simp only[←hBh] at this
 exact hR _ _ ⟨B + 1,by simp[z1l,AV.cv,cvL,AV.ids,idsL],by omega⟩ fun c=>this _ _ _ c
theorem k5e {V:List Var} {s d:Nat} {t:Term} {u:Tip} (ht:WF V [s] d t) (hV:∀ v∈V,v∈U) (hl:t.length≤20000) (hd:d≤257):Pure Gam 157 [.sl (t.map eNode) u] (nat s):=by
 refine Pure.of rfl u4g rfl rfl rfl (az:=[.sl (t.map eNode) .no]) rfl (by simp[idsL,AV.ids,z0d z2i]) fun D B clk T hB hT=> ?_
 simp only[go_sem,y5e,List.append_nil]
 refine z5x (w4g ht hV hl hd fun gP gV g2 P dep o3 o4 o5 o6 o7 o8 o9 c hPl hp hdep=> ?_)
 rw[hB]
 have hix:∀ L,z1p (D++ .blk gP (P.map ePt) true false 0::L) 3 (.ob (B + 0) gP 0 t.length) (.int .i64 0)=some (.ptr (B + 0) gP 0 0,D++ .blk gP (P.map ePt) true false 0::L):=fun L=>q9c (i:=0) hB hp hPl
 simp only[go_sem,Bool.not_true,z8e,hB,hix,x6u hp]
 rw[z2l]
 exact hT _
theorem k5f {V:List Var} {s d:Nat} {t:Term} {u:Tip} (ht:WF V [s] d t) (hV:∀ v∈V,v∈U) (hl:t.length≤20000) (hd:d≤257):Pure Gam 158 [.sl (t.map eNode) u] (.sl [] .no):=by
 refine Pure.of rfl u4h rfl rfl rfl (az:=[.sl (t.map eNode) .no]) rfl (by simp[idsL,AV.ids,z0d z2i]) fun D B clk T hB hT=> ?_
 simp only[go_sem,y5f,List.append_nil]
 refine z5x (w4g ht hV hl hd fun gP gV g2 P dep o3 o4 o5 o6 o7 o8 o9 c hPl hp hdep=> ?_)
 rw[hB]
 have r2:=x6x (s:=B + 1) (sP:=B + 0) (gV:=gV) (gP:=gP) (P:=P) hl ht.names hV
 have hh:=x6y (t:=t) (gP:=gP) (gV:=gV) (g2:=g2) (P:=P) (o3:=o3) (o4:=o4) (o5:=o5) (o6:=o6) (o7:=o7) (o8:=o8) (o9:=o9) hB
 simp only[go_sem,Bool.not_true,z0x r2 hh]
 rw[z0g rfl rfl]
 exact hT _
theorem k5g {V:List Var} {s d:Nat} {t:Term} {u:Tip} (ht:WF V [s] d t) (hV:∀ v∈V,v∈U) (hl:t.length≤20000) (hd:d≤257):Pure Gam 160 [.sl (t.map eNode) u] (.sl ((z3a t []).map z1h) .no):=by
 refine Pure.of rfl u4i rfl rfl rfl (az:=[.sl (t.map eNode) .no]) rfl (by simp[idsL,AV.ids,z0d z2i]) fun D B clk T hB hT=> ?_
 simp only[go_sem,y5g,List.append_nil]
 refine z5x (w4g ht hV hl hd fun gP gV g2 P dep o3 o4 o5 o6 o7 o8 o9 c hPl hp hdep=> ?_)
 rw[hB]
 have r2:=x6x (s:=B + 1) (sP:=B + 0) (gV:=gV) (gP:=gP) (P:=P) hl ht.names hV
 have hh:=x6y (t:=t) (gP:=gP) (gV:=gV) (g2:=g2) (P:=P) (o3:=o3) (o4:=o4) (o5:=o5) (o6:=o6) (o7:=o7) (o8:=o8) (o9:=o9) hB
 simp only[go_sem,Bool.not_true,z0x r2 hh]
 rw[z2k rfl (by simp[AV.cv,AV.ids,z0d (f:=z1h) fun _=>rfl])]
 exact hT _
end
section
variable {U:List Var} [UOk U]
theorem k5h {D:List AObj} {s g:Nat} {es:List (AV×AV)} (h:D[s]? =some (.map g es)):z5q D s g=some es:=by simp[z5q,h]
theorem x6z {D L:List AObj} {B s g:Nat} (hB:D.length=B) (h:s < B):z5q (D++L) s g=z5q D s g:=by
 unfold z5q
 rw[z0w hB h]
def z1s (V:List Var):List (AV×AV):=V.map fun v=>(z1h v, .bool true)
theorem x7a {v w:Var}:(z1h v).eqv (.agg [.str, .int]) (z1h w)=some (decide (v=w)):=by
 have:(decide (v.name=w.name) && (decide ((v.sort:Int)=(w.sort:Int)) && true))=decide (v=w):=by
  rw[Bool.and_true,Bool.eq_iff_iff]
  simp only[Bool.and_eq_true,decide_eq_true_iff]
  constructor
  ·rintro ⟨h1,h2⟩
   cases v;cases w
   simp only[Var.mk.injEq] at h1 h2⊢
   exact⟨h1,by omega⟩
  ·rintro rfl
   exact⟨rfl,rfl⟩
 rw[←this]
 rfl
theorem x1t {v:Var}:∀ {V:List Var},findKey (.agg [.str, .int]) (z1h v) (z1s V)=some (if v∈V then some (.bool true) else none)
 | []=>rfl
 | w::V=>by
   have ih:=x1t (v:=v) (V:=V)
   unfold z1s at ih⊢
   simp only[List.map_cons,findKey,x7a]
   by_cases h:v=w
   ·subst h
    simp
   ·simp only[h,decide_false,ih,List.mem_cons,false_or]
theorem x4t {v:Var}:∀ {V:List Var},v∉V→z7t (.agg [.str, .int]) (z1h v) (.bool true) (z1s V)=some (z1s (V++[v]))
 | [],_=>rfl
 | w::V,hn=>by
   rw[List.mem_cons,not_or] at hn
   have ih:=x4t (v:=v) (V:=V) hn.2
   unfold z1s at ih⊢
   simp only[List.map_cons,List.cons_append,z7t,x7a,hn.1,decide_false,ih,Option.map_some]
theorem q3b {g:Nat} {V:List Var}:(AObj.map g (z1s V)).ids=[]:=by
 simp only[AObj.ids,z1s,List.map_map,List.append_eq_nil_iff]
 constructor
 ·have:(Prod.fst∘fun v:Var=>(z1h v,AV.bool true))=z1h:=rfl
  rw[this]
  exact z0d fun _=>rfl
 ·exact z0d (f:=Prod.snd∘fun v:Var=>(z1h v,AV.bool true)) fun _=>rfl
theorem v7f {h:List AObj} {z:AV} {v:Var} {V:List Var}:lkV h (.agg [.str, .int]) z false (some (z1s V)) (.agg [.str v.name, .int .i64 (v.sort:Int)])=some (q8q false z (if v∈V then some (.bool true) else none),h):=by
 have h1:((z1h v).eqv (.agg [.str, .int]) (z1h v)).isSome=true:=by rw[x7a];rfl
 have h2:=x1t (v:=v) (V:=V)
 rw[show z1h v= .agg [.str v.name, .int .i64 (v.sort:Int)] from rfl] at h1 h2
 simp only[lkV,h1,if_true,h2,Option.map_some]
theorem v1q {s g sX gX:Nat} {v:Var} {V:List Var}:Reads [(s, .blk g [.mp sX gX] false false 0),(sX, .map gX (z1s V))] 256 [z1h v, .ptr s g 0 0] (.bool (!decide (v∈V))):=by
 refine Reads.of rfl u5q rfl rfl rfl (az:=[z1h v, .ptr s g 0 0]) rfl (Cov.two rfl q3b) fun D B clk T hB hS hlt hT=> ?_
 have h1:=hlt (s, .blk g [.mp sX gX] false false 0) (by simp)
 have h2:=hlt (sX, .map gX (z1s V)) (by simp)
 have b1:=z5m (g:=g) (hS (s, .blk g [.mp sX gX] false false 0) (by simp))
 have b2:=k5h (g:=gX) (hS (sX, .map gX (z1s V)) (by simp))
 dsimp only at h1 h2 b1 b2
 by_cases hin:v∈V
 ·simp only[go_sem,w4a,hB,z1h,nat,z3m hB h1,b1,z3v,x6z hB h2,b2,v7f,hin,z9j,Bool.not_true]
  rw[z0e]
  simp only[hin,decide_true,Bool.not_true] at hT
  exact hT _ hS.app
 ·simp only[go_sem,w4a,hB,z1h,nat,z3m hB h1,b1,z3v,x6z hB h2,b2,v7f,hin,z5p,Bool.not_false]
  rw[z0e]
  simp only[hin,decide_false,Bool.not_false] at hT
  exact hT _ hS.app
theorem Cov.mp1 {s g:Nat} {es:List (AV×AV)} (h:(AObj.map g es).ids=[]):Cov [(s, .map g es)] [s]:=Cov.one h
theorem j6y {sX gX s d:Nat} {V:List Var} {t:Term} {u:Tip} (ht:WF V [s] d t) (hV:∀ v∈V,v∈U) (hl:t.length≤20000) (hd:d≤257):Reads [(sX, .map gX (z1s V))] 204 [.mp sX gX, .sl (t.map eNode) u,nat s] (.bool true):=by
 refine Reads.of rfl u5n rfl rfl rfl (az:=[.mp sX gX, .sl (t.map eNode) .no,nat s]) rfl (by simpa [idsL,AV.ids,z0d z2i,nat] using Cov.mp1 q3b) fun D B clk T hB hS hlt hT=> ?_
 have h2:=hlt (sX, .map gX (z1s V)) (by simp)
 have p1:=k5e (u:= .no) ht hV hl hd
 have p2:=k5f (u:= .no) ht hV hl hd
 have p3:=k5g (u:= .no) ht hV hl hd
 rw[nat] at p1
 have hvl:(z3a t []).length≤2 ^ 20:=by
  have:=q1c (t:=t) (acc:=[])
  simp only[List.length_nil] at this
  omega
 have hr:∀ g,Reads [(B + 0, .blk g [.mp sX gX] false false 0),(sX, .map gX (z1s V))] 159 [.sl ((z3a t []).map z1h) .no, .fn 256 [.ptr (B + 0) g 0 0]] (.bool ((z3a t []).any fun v=> !decide (v∈V))):=fun g=>
  j6u (enc:=z1h) (P:=fun v=> !decide (v∈V)) (fun _=>rfl) (fun _ _=>rfl) (fun _=>rfl) hvl (by simpa [idsL,AV.ids] using Cov.two (s:=B + 0) (t:=sX) rfl q3b) fun v _=>v1q
 have e:((z3a t []).any fun v=> !decide (v∈V))=false:=by
  rw[List.any_eq_false]
  intro v hv
  have:=q1b ht.names (acc:=[]) (by simp) v hv
  simp[this]
 rw[e] at hr
 have hh:∀ g,Has [(B + 0, .blk g [.mp sX gX] false false 0),(sX, .map gX (z1s V))] (D++[.blk g [.mp sX gX] false false 0]):=fun g=>by
  refine Has.cons ?_ (Has.cons ?_ Has.nil)
  ·dsimp only;rw[z6c hB];rfl
  ·have:=hS.app (L:=[.blk g [.mp sX gX] false false 0]) (sX, .map gX (z1s V)) (by simp)
   exact this
 simp only[go_sem,y6n,hB,nat,z0a p1,decide_true,Bool.not_true,z0a p2,Int.reduceLT,decide_false,z0a p3]
 rw[z0x (hr _) (hh _)]
 simp only[go_sem,Bool.not_false]
 rw[z0e]
 exact hT _ hS.app
end
theorem k5i {s:Nat} (h1:1≤s) (h4:s≤4):Pure Gam 199 [nat s] (.bool true):=by
 refine Pure.of rfl u5r rfl rfl rfl rfl rfl fun D B clk T hB hT=> ?_
 have e1:decide ((1:Int)≤(s:Int))=true:=by rw[decide_eq_true_iff];omega
 have e2:decide ((s:Int)≤4)=true:=by rw[decide_eq_true_iff];omega
 simp only[go_sem,y6q,nat,e1,e2]
 rw[z0e]
 exact hT _
def z4e:Nat→List Func→List (AV×AV)
 | _,[]=>[]
 | k,p::ps=>(.str p.name, .int .i64 (k:Int))::z4e (k + 1) ps
theorem j3u {k:Nat} {ps:List Func}:(z4e k ps).length=ps.length:=by
 induction ps generalizing k with
 | nil=>rfl
 | cons p ps ih=>simp[z4e,ih]
theorem v1r {g k:Nat} {ps:List Func}:(AObj.map g (z4e k ps)).ids=[]:=by
 simp only[AObj.ids,List.append_eq_nil_iff]
 induction ps generalizing k with
 | nil=>exact⟨rfl,rfl⟩
 | cons p ps ih=>exact⟨by simpa [z4e,idsL,AV.ids] using (ih (k:=k + 1)).1,by simpa [z4e,idsL,AV.ids] using (ih (k:=k + 1)).2⟩
theorem q3c {a:List Nat}:∀ {ps:List Func} {k:Nat},(∀ p∈ps,p.name≠a)→findKey (.one .str) (.str a) (z4e k ps)=some none
 | [],_,_=>rfl
 | p::ps,k,h=>by
   have hne:decide (a=p.name)=false:=decide_eq_false fun e=>h p List.mem_cons_self e.symm
   simp only[z4e,findKey,AV.eqv,AV.eq1,hne]
   exact q3c fun q hq=>h q (List.mem_cons_of_mem _ hq)
theorem q3d:∀ {ps:List Func} {k j:Nat} {f:Func},(ps.map (·.name)).Nodup→ps[j]? =some f→findKey (.one .str) (.str f.name) (z4e k ps)=some (some (.int .i64 ((k + j:Nat):Int)))
 | [],_,_,_,_,h=>by simp at h
 | p::ps,k,0,f,_,h=>by
   simp at h
   subst h
   simp[z4e,findKey,AV.eqv,AV.eq1]
 | p::ps,k,j + 1,f,hn,h=>by
   rw[List.map_cons,List.nodup_cons] at hn
   simp only[List.getElem?_cons_succ] at h
   have hne:decide (f.name=p.name)=false:=decide_eq_false fun e=>hn.1 (by rw[←e];exact List.mem_map.2 ⟨f,List.mem_of_getElem? h,rfl⟩)
   simp only[z4e,findKey,AV.eqv,AV.eq1,hne]
   rw[q3d hn.2 h,show k + 1 + j=k + (j + 1) by omega]
theorem x1u {a:List Nat} {n:Nat}:∀ {ps:List Func} {k:Nat} {r:List Nat} {q:Nat},(∀ p∈ps,p.name≠a)→n=k + ps.length→z7t (.one .str) (.str a) (.int .i64 (n:Int)) (z4e k ps)=some (z4e k (ps++[⟨a,r,q⟩]))
 | [],k,r,q,_,hn=>by
   simp at hn
   subst hn
   rfl
 | p::ps,k,r,q,h,hn=>by
   have hne:decide (a=p.name)=false:=decide_eq_false fun e=>h p List.mem_cons_self e.symm
   have ih:=x1u (a:=a) (n:=n) (ps:=ps) (k:=k + 1) (r:=r) (q:=q) (fun q hq=>h q (List.mem_cons_of_mem _ hq)) (by simp at hn;omega)
   simp only[List.cons_append,z4e,z7t,AV.eqv,AV.eq1,hne,ih,Option.map_some]
def z5e (gC:Nat) (s:Sys) (sP gP:Nat):AObj:= .blk gC [.agg [.sl (s.preds.map z0y) .no, .sl (s.clauses.map z0h) .no, .mp sP gP, .sl [] .nil]] false false 0
def z9r (gP:Nat) (s:Sys):AObj:= .map gP (z4e 0 s.preds)
theorem q7g {gC sP gP:Nat} {s:Sys}:(z5e gC s sP gP).ids=[sP]:=by
 simp[z5e,AObj.ids,idsL,AV.ids,z0d z4i,z0d z4k]
theorem x4u {gP:Nat} {s:Sys}:(z9r gP s).ids=[]:=v1r
structure PrOk (ps:List Func):Prop where
 nodup:(ps.map (·.name)).Nodup
 args:∀ f∈ps,f.args.length≤40∧∀ s∈f.args,1≤s∧s≤4
 name:∀ f∈ps,f.name≠[]
theorem Cov.atom {sC sP sX:Nat} {oC oP oX:AObj} (hC:oC.ids=[sP]) (hP:oP.ids=[]) (hX:oX.ids=[]):Cov [(sC,oC),(sP,oP),(sX,oX)] [sC,sX]:=by
 refine⟨by simp,by simp[hC,hP,hX],fun h hS p hp=> ?_⟩
 have h1:h[sC]? =some oC:=hS (sC,oC) (by simp)
 have hr:reach h (h.length + 1) [] [sC,sX]=reach h h.length [sC] [sP,sX]:=by rw[q0y (by simp) h1,hC];rfl
 rw[hr]
 simp at hp
 rcases hp with rfl | rfl | rfl
 ·exact z7g (.inl List.mem_cons_self)
 ·exact z7g (.inr List.mem_cons_self)
 ·exact z7g (.inr (List.mem_cons_of_mem _ List.mem_cons_self))
theorem j6z {sC gC sP gP sX gX:Nat} {s:Sys} {a:App} {V:List Var} (hp:PrOk s.preds) (ha:AppOk s.preds V a) (hV:∀ v∈V,v∈z1z):Reads [(sC,z5e gC s sP gP),(sP,z9r gP s),(sX, .map gX (z1s V))] 203 [.ptr sC gC 0 0,z3u a, .mp sX gX] (.bool true):=by
 obtain⟨f,hf,hname,hlen,hargs⟩:=ha
 obtain⟨j,hj⟩:=List.getElem?_of_mem hf
 have hjl:j < s.preds.length:=by
  rw[List.getElem?_eq_some_iff] at hj
  exact hj.1
 refine Reads.of rfl u5m rfl rfl rfl (az:=[.ptr sC gC 0 0,z3u a, .mp sX gX]) rfl (by simpa [idsL,AV.ids,z6d] using Cov.atom q7g (x4u (gP:=gP) (s:=s)) q3b) fun D B clk T hB hS hlt hT=> ?_
 have h1:=hlt (sC,z5e gC s sP gP) (by simp)
 have h2:=hlt (sP,z9r gP s) (by simp)
 have b1:=z5m (g:=gC) (hS (sC,z5e gC s sP gP) (by simp))
 have b2:=k5h (g:=gP) (hS (sP,z9r gP s) (by simp))
 dsimp only at h1 h2 b1 b2
 have hfk:=q3d (k:=0) hp.nodup hj
 rw[Nat.zero_add,←hname] at hfk
 have hpl:=hp.args f hf
 have hix:∀ h,z1p h 3 (.sl (s.preds.map z0y) .no) (.int .i64 (j:Int))=some (.iptr [.str f.name, .sl (f.args.map nat) .no,nat f.result] 0,h):=fun h=>by
  have h2:s.preds[j]=f:=by
   rw[List.getElem?_eq_some_iff] at hj
   exact hj.2
  rw[z8o hjl,h2]
 have e1:decide ((a.args.length:Int)=(f.args.length:Int))=true:=by rw[decide_eq_true_iff];omega
 simp only[go_sem,y6m,hB,z3u,z3m hB h1,b1,z3v,x6z hB h2,b2,x1s hfk,x4s,Bool.not_true,List.length_map,hix,e1]
 refine z1f (fun m q=>∃ (i:Nat),i≤a.args.length∧m=a.args.length - i∧q.ts 0= .ptr sC gC 0 0∧q.ts 2= .mp sX gX∧q.ts 7= .int .i64 (j:Int)∧q.ts 40= .sl (a.args.map z0n) .no∧q.ts 41= .int .i64 (a.args.length:Int)∧q.ts 42= .int .i64 (i:Int)∧∃ o,q.h=D++[o]) a.args.length ⟨0,by omega,rfl,rfl,rfl,by simp[z0b],rfl,rfl,rfl,_,rfl⟩ ?_
 rintro m ⟨ts,h,clk⟩ Pq ⟨i,hi,rfl,q0,q2,q7,q40,q41,q42,o,rfl⟩ hnx he hr
 dsimp only at q0 q2 q7 q40 q41 q42
 by_cases hlt':i < a.args.length
 ·have f1:decide ((i:Int) < (a.args.length:Int))=true:=by rw[decide_eq_true_iff];omega
  have f2:IntKind.i64.wrap ((i:Int) + 1)=((i + 1:Nat):Int):=z0c (by omega) (by omega)
  have hia:i < f.args.length:=by omega
  have hix2:∀ h,z1p h 1 (.sl (f.args.map nat) .no) (.int .i64 (i:Int))=some (.iptr [.int .i64 (f.args[i]:Int)] 0,h):=fun h=>x0w hia
  have hz:(f.args[i],a.args[i])∈f.args.zip a.args:=by
   have:(f.args.zip a.args)[i]? =some (f.args[i],a.args[i]):=by simp[List.getElem?_zip_eq_some,hia,hlt']
   exact List.mem_of_getElem? this
  obtain⟨hwf,hsz,hs1,hs4⟩:=hargs _ hz
  dsimp only at hwf hsz hs1 hs4
  have p1:=k5i hs1 hs4
  have p2:=j6y (sX:=sX) (gX:=gX) (u:= .no) hwf hV (by omega) (by omega)
  rw[nat] at p1 p2
  have hix3:∀ h,z1p h 1 (.sl (a.args.map z0n) .no) (.int .i64 (i:Int))=some (.iptr [.sl (a.args[i].map eNode) .no] 0,h):=fun h=>q1s hlt'
  have hh:Has [(sX, .map gX (z1s V))] (D++[o]):=fun p hp'=>hS.app p (by simp at hp';subst hp';simp)
  simp only[go_sem,j6t,q0,q2,q7,q40,q41,q42,f1,hB,hix3,z3m hB h1,b1,hix,hix2,z0a p1,Bool.not_true,z0x p2 hh,f2]
  exact hnx (a.args.length - (i + 1)) _ (by omega) ⟨i + 1,hlt',rfl,q0,q2,q7,q40,q41,rfl,o,rfl⟩
 ·have f1:decide ((i:Int) < (a.args.length:Int))=false:=by rw[decide_eq_false_iff_not];omega
  simp only[go_sem,j6t,q0,q2,q7,q40,q41,q42,f1]
  refine he _ _ ?_
  simp only[go_sem,]
  rw[z0e]
  exact hT _ hS.app
end Go.Proofs.YtkollgjffkdliaaGreatDoor.Am
