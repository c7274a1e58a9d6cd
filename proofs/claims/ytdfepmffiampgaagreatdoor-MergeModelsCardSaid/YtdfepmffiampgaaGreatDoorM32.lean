/- Walking: nodes are permitted, and have their sorts Walking: nodes are permitted, and have their sorts Walking: a term is looked at from its last node on: what holds between the nodes Walking: a term i -/
import Derived.Test.YtdfepmffiampgaaGreatDoorM31
open Nat renaming reduceBEq → z0,reduceAdd → z1,reduceLeDiff → z2,reduceSub → z3
set_option linter.all false
namespace Go.Proofs.YtdfepmffiampgaaGreatDoor.Am
open Go
set_option maxRecDepth 100000
section
theorem x5r {D L:List AObj} {B k:Nat} {o:AObj} (hB:D.length=B) (hL:L[k]? =some o):Has [(B + k,o)] (D++L):=by
 refine Has.cons ?_ Has.nil
 rw[z2v hB]
 exact hL
theorem k9i {s g:Nat} {x y:Int}:Reads [(s, .blk g [.int .i64 y] false false 0)] 234 [.int .i64 x, .ptr s g 0 0] (.bool (!decide (x=y))):=by
 refine Reads.of rfl u4p rfl rfl rfl rfl (Cov.one rfl) fun D B clk T hB hS hlt hT=> ?_
 have hs:=hlt _ List.mem_cons_self
 have hb:=z2g (g:=g) (hS _ List.mem_cons_self)
 dsimp only at hs hb
 simp only[go_sem,y3i,z3p hB hs,hb]
 rw[z0d]
 exact hT _ hS.app
theorem q2j {ss:List Nat} {s:Nat} {t:Tip} (h:∀ x∈ss,x=s) (hl:ss.length≤2 ^ 20):Pure Gam 190 [.sl (ss.map nat) t,nat s] (.bool true):=by
 refine Pure.of rfl u4o rfl rfl rfl (az:=[.sl (ss.map nat) .no,nat s]) rfl (by simp[idsL,AV.ids,z0b (f:=nat) fun _=>z3q,z3q]) fun D B clk T hB hT=> ?_
 have hr:∀ g,Reads [(B + 0, .blk g [.int .i64 (s:Int)] false false 0)] 222 [.sl (ss.map nat) .no, .fn 234 [.ptr (B + 0) g 0 0]] (.bool (ss.any fun x=> !decide ((x:Int)=(s:Int)))):=fun g=>
  k9d (enc:=nat) (P:=fun x=> !decide ((x:Int)=(s:Int))) (fun _=>rfl) (fun _ _=>rfl) (fun _=>rfl) hl (Cov.one rfl) fun x _=>k9i
 have e:(ss.any fun x=> !decide ((x:Int)=(s:Int)))=false:=by
  rw[List.any_eq_false]
  intro x hx
  simp[h x hx]
 rw[e] at hr
 simp only[go_sem,y3h,nat,hB]
 rw[z1m (hr _) (x5r hB rfl)]
 simp only[go_sem,Bool.not_false]
 rw[z0d]
 exact hT _
theorem z2t {s:Int}:Pure Gam 189 [.bool true, .int .i64 s] (.int .i64 s):=by
 refine Pure.of rfl u4n rfl rfl rfl rfl rfl fun D B clk T hB hT=> ?_
 simp only[go_sem,y3g]
 rw[z2r]
 exact hT _
theorem j2g {s:Nat} (hs:s=2∨s=3):Pure Gam 191 [nat s] (.bool true):=by
 refine Pure.of rfl u4s rfl rfl rfl rfl rfl fun D B clk T hB hT=> ?_
 rcases hs with rfl | rfl
 ·simp only[go_sem,w1l,nat,Int.cast_ofNat_Int,Int.reduceEq,decide_true,decide_false]
  rw[z0d]
  exact hT _
 ·simp only[go_sem,w1l,nat,Int.cast_ofNat_Int,Int.reduceEq,decide_true,decide_false]
  rw[z0d]
  exact hT _
theorem w2h {s:Nat} (h1:1≤s) (h4:s≤4):Pure Gam 186 [nat s] (.bool true):=by
 refine Pure.of rfl u4k rfl rfl rfl rfl rfl fun D B clk T hB hT=> ?_
 have e1:decide ((1:Int)≤(s:Int))=true:=by rw[decide_eq_true_iff];omega
 have e2:decide ((s:Int)≤4)=true:=by rw[decide_eq_true_iff];omega
 simp only[go_sem,y3e,nat,e1,e2]
 rw[z0d]
 exact hT _
class UOk (U:List Var):Prop where
 name:∀ v∈U,z7w q1o [.str v.name]=some (.bool true)
 name2:∀ v∈U,z7w q1v [.str v.name]=some (.bool true)
 sort:∀ v∈U,1≤v.sort∧v.sort≤4
 inj:∀ v∈U,∀ w∈U,v.name=w.name→v=w
instance:UOk z2m where
 name v hv:=by
  simp only[z2m,List.mem_cons,List.not_mem_nil,or_false] at hv
  rcases hv with rfl | rfl | rfl | rfl | rfl | rfl | rfl | rfl <;> rfl
 name2 v hv:=by
  simp only[z2m,List.mem_cons,List.not_mem_nil,or_false] at hv
  rcases hv with rfl | rfl | rfl | rfl | rfl | rfl | rfl | rfl <;> rfl
 sort:=by decide
 inj:=by decide
variable {U:List Var} [UOk U]
theorem j2h {v:Var} (hv:v∈U):Pure Gam 117 [.str v.name] (.bool true):=Pure.tab (tab:=q1o) rfl rfl (UOk.name v hv)
theorem q5r {v:Var} (hv:v∈U):1≤v.sort∧v.sort≤4:=UOk.sort v hv
theorem q0l {h:List AObj} {K k:IntKind} {n:Int} {a:AV} {xs:List AV} {t:Tip}:z1n h 1 (.sl (a:: .int K n::xs) t) (.int k 1)=some (.iptr [.int K n] 0,h):=z5p (i:=1) (e:= .int K n) rfl rfl
theorem x0r {h:List AObj} {K k:IntKind} {n:Int} {a b:AV} {xs:List AV} {t:Tip}:z1n h 1 (.sl (a::b:: .int K n::xs) t) (.int k 2)=some (.iptr [.int K n] 0,h):=z5p (i:=2) (e:= .int K n) rfl rfl
theorem z3a {o k:Nat} (ho:o=1∨o=2∨o=6∨o=7∨o=8∨o=9∨o=10∨o=11∨o=12∨o=13∨o=14∨o=15∨o=18∨o=19∨o=20):Pure Gam 123 [eNode (bare o k)] (.bool true):=by
 refine Pure.of rfl k3d rfl rfl rfl rfl rfl fun D B clk T hB hT=> ?_
 have e1:decide ((o:Int)=3)=false:=by rw[decide_eq_false_iff_not];omega
 have e2:decide ((o:Int)=4)=false:=by rw[decide_eq_false_iff_not];omega
 have e3:decide ((o:Int)=5)=false:=by rw[decide_eq_false_iff_not];omega
 have e4:decide ((o:Int)=16)=false:=by rw[decide_eq_false_iff_not];omega
 have e5:decide ((o:Int)=17)=false:=by rw[decide_eq_false_iff_not];omega
 have e6:decide ((1:Int)≤(o:Int))=true:=by rw[decide_eq_true_iff];omega
 have e7:decide ((o:Int)≤20)=true:=by rw[decide_eq_true_iff];omega
 have e8:decide (((0:Nat):Int)=0)=true:=rfl
 simp only[go_sem,j2b,hB,eNode,bare,nat,e1,e2,e3,e4,e5,e6,e7,e8,decide_true]
 rw[z0d]
 exact hT _
theorem k3k {V:List Var} {n:Node} {ss:List Nat} {s:Nat} {ks:Term} (hn:NodeOk V n ss s ks) (hV:∀ v∈V,v∈U):Pure Gam 123 [eNode n] (.bool true):=by
 cases hn with
 | bool h=>exact z3a (by omega)
 | not=>exact z3a (by omega)
 | andor h=>exact z3a (by omega)
 | imp=>exact z3a (by omega)
 | ite h1 h2=>exact z3a (by omega)
 | eq h1 h2=>exact z3a (by omega)
 | cmp h hs=>exact z3a (by omega)
 | add h hs=>exact z3a (by omega)
 | mul hs hn=>exact z3a (by omega)
 | select=>exact z3a (by omega)
 | store=>exact z3a (by omega)
 | const=>exact z3a (by omega)
 | int h=>
   refine Pure.of rfl k3d rfl rfl rfl rfl rfl fun D B clk T hB hT=> ?_
   simp only[go_sem,j2b,hB,eNode,nat,Int.cast_ofNat_Int,Int.reduceEq,decide_true,decide_false,z0a (j2f h)]
   rw[z0d]
   exact hT _
 | real h=>
   refine Pure.of rfl k3d rfl rfl rfl rfl rfl fun D B clk T hB hT=> ?_
   simp only[go_sem,j2b,hB,eNode,nat,Int.cast_ofNat_Int,Int.reduceEq,decide_true,decide_false,z0a (x9n h)]
   rw[z0d]
   exact hT _
 | var h=>
   refine Pure.of rfl k3d rfl rfl rfl rfl rfl fun D B clk T hB hT=> ?_
   have hs:=q5r (hV _ h)
   have h1:=w2h hs.1 hs.2
   rw[nat] at h1
   simp only[go_sem,j2b,hB,eNode,nat,Int.cast_ofNat_Int,Int.reduceEq,decide_true,decide_false,z0a h1,z0a (j2h (hV _ h))]
   rw[z0d]
   exact hT _
 | @div o k _ ho h1 h5=>
   refine Pure.of rfl k3d rfl rfl rfl rfl rfl fun D B clk T hB hT=> ?_
   have hp1:Pure Gam 187 [.str (dec k)] (.bool true):=by
    have:=k3e (z:=(k:Int)) (by rw[Int.natAbs_natCast,z9r (by omega)];simp)
    rwa [z3k,if_neg (by omega),Int.natAbs_natCast] at this
   have hp2:=w2d h1 h5
   have e1:decide ((o:Int)=3)=false:=by rw[decide_eq_false_iff_not];omega
   have e2:decide ((o:Int)=4)=false:=by rw[decide_eq_false_iff_not];omega
   have e3:decide ((o:Int)=5)=false:=by rw[decide_eq_false_iff_not];omega
   have e8:decide (((0:Nat):Int)=0)=true:=rfl
   rcases ho with rfl | rfl
   ·simp only[go_sem,j2b,hB,eNode,nat,Int.cast_ofNat_Int,Int.reduceEq,Int.reduceLT,decide_true,decide_false,e8,z0a hp1,z0a hp2]
    rw[z0d]
    exact hT _
   ·simp only[go_sem,j2b,hB,eNode,nat,Int.cast_ofNat_Int,Int.reduceEq,Int.reduceLT,decide_true,decide_false,e8,z0a hp1,z0a hp2]
    rw[z0d]
    exact hT _
end
theorem k3l {V:List Var} {n:Node} {ss:List Nat} {s:Nat} {ks:Term} (hn:NodeOk V n ss s ks):Pure Gam 124 [nat n.op,nat n.kids] (.bool true):=by
 refine Pure.of rfl u4i rfl rfl rfl rfl rfl fun D B clk T hB hT=> ?_
 have e0:decide (((0:Nat):Int)=0)=true:=rfl
 cases hn with
 | bool h=>
   rcases h with rfl | rfl
   all_goals
    simp only[go_sem,x1y,nat,bare,Int.cast_ofNat_Int,Int.reduceEq,decide_true,decide_false]
    rw[z0d]
    exact hT _
 | int h=>
   simp only[go_sem,x1y,nat,Int.cast_ofNat_Int,Int.reduceEq,decide_true,decide_false]
   rw[z0d]
   exact hT _
 | real h=>
   simp only[go_sem,x1y,nat,Int.cast_ofNat_Int,Int.reduceEq,decide_true,decide_false]
   rw[z0d]
   exact hT _
 | var h=>
   simp only[go_sem,x1y,nat,Int.cast_ofNat_Int,Int.reduceEq,decide_true,decide_false]
   rw[z0d]
   exact hT _
 | andor h=>
   rcases h with rfl | rfl
   all_goals
    simp only[go_sem,x1y,nat,bare,Int.cast_ofNat_Int,Int.reduceEq,decide_true,decide_false]
    rw[z0d]
    exact hT _
 | cmp h hs=>
   rcases h with rfl | rfl
   all_goals
    simp only[go_sem,x1y,nat,bare,Int.cast_ofNat_Int,Int.reduceEq,decide_true,decide_false]
    rw[z0d]
    exact hT _
 | @add k _ _ h hs=>
   have e1:decide ((1:Int)≤(k:Int))=true:=by rw[decide_eq_true_iff];omega
   simp only[go_sem,x1y,nat,bare,Int.cast_ofNat_Int,Int.reduceEq,decide_true,decide_false,e1]
   rw[z0d]
   exact hT _
 | div h h1 h5=>
   rcases h with rfl | rfl
   all_goals
    simp only[go_sem,x1y,nat,Int.cast_ofNat_Int,Int.reduceEq,decide_true,decide_false]
    rw[z0d]
    exact hT _
 | _=>
   simp only[go_sem,x1y,nat,bare,Int.cast_ofNat_Int,Int.reduceEq,decide_true,decide_false]
   rw[z0d]
   exact hT _
theorem z6m {l:List Nat}:idsL (l.map nat)=[]:=z0b fun _=>rfl
theorem v4f {k s:Nat}:∀ x∈List.replicate k s,x=s:=fun _ hx=>(List.mem_replicate.1 hx).2
theorem k9j {k s:Nat} {h:List AObj} {t:Tip} (hk:1≤k):z1n h 1 (.sl ((List.replicate k s).map nat) t) (.int .i64 0)=some (.iptr [.int .i64 (s:Int)] 0,h):=by
 obtain⟨k,rfl⟩:∃ j,k=j + 1:=⟨k - 1,by omega⟩
 exact z5p (i:=0) (e:=nat s) rfl rfl
theorem k3m {V:List Var} {n:Node} {ss:List Nat} {s:Nat} {ks:Term} {t:Tip} (hn:NodeOk V n ss s ks) (hl:ss.length≤2 ^ 20):Pure Gam 125 [eNode n, .sl (ss.map nat) t] (.int .i64 (s:Int)):=by
 refine Pure.of rfl u4j rfl rfl rfl (az:=[eNode n, .sl (ss.map nat) .no]) (by simp[cvL,k2k,AV.cv]) (by simp[idsL,z0x,AV.ids,z6m]) fun D B clk T hB hT=> ?_
 cases hn with
 | bool h=>
   have hp:=q2j (ss:=[]) (s:=1) (t:= .no) (by simp) (by simp)
   rw[List.map_nil,nat,Int.cast_ofNat_Int] at hp
   rcases h with rfl | rfl
   all_goals
    simp only[go_sem,q2h,hB,eNode,nat,bare,Int.cast_ofNat_Int,Int.reduceEq,decide_true,decide_false,z0a hp,z0a z2t]
    rw[z2r]
    exact hT _
 | int h=>
   simp only[go_sem,q2h,hB,eNode,nat,Int.cast_ofNat_Int,Int.reduceEq,decide_true,decide_false]
   rw[z2r]
   exact hT _
 | real h=>
   simp only[go_sem,q2h,hB,eNode,nat,Int.cast_ofNat_Int,Int.reduceEq,decide_true,decide_false]
   rw[z2r]
   exact hT _
 | var h=>
   simp only[go_sem,q2h,hB,eNode,nat,Int.cast_ofNat_Int,Int.reduceEq,decide_true,decide_false]
   rw[z2r]
   exact hT _
 | not=>
   have hp:=q2j (ss:=[1]) (s:=1) (t:= .no) (by simp) (by simp)
   rw[List.map_cons,List.map_nil,nat,Int.cast_ofNat_Int] at hp
   simp only[go_sem,q2h,hB,eNode,nat,bare,Int.cast_ofNat_Int,Int.reduceEq,decide_true,decide_false,z0a hp,z0a z2t]
   rw[z2r]
   exact hT _
 | @andor o k _ h=>
   have hp:=q2j (ss:=List.replicate k 1) (s:=1) (t:= .no) v4f hl
   rw[show nat 1= .int .i64 1 from rfl] at hp
   rcases h with rfl | rfl
   all_goals
    simp only[go_sem,z0,z1,z2,z3,reduceCtorEq,↓reduceIte,q2h,hB,eNode,nat,bare,Int.cast_ofNat_Int,Int.reduceEq,decide_true,decide_false,z0a hp,z0a z2t]
    rw[z2r]
    exact hT _
 | imp=>
   have hp:=q2j (ss:=[1,1]) (s:=1) (t:= .no) (by simp) (by simp)
   rw[List.map_cons,List.map_cons,List.map_nil,nat,Int.cast_ofNat_Int] at hp
   simp only[go_sem,q2h,hB,eNode,nat,bare,Int.cast_ofNat_Int,Int.reduceEq,decide_true,decide_false,z0a hp,z0a z2t]
   rw[z2r]
   exact hT _
 | @ite s _ h1 h2=>
   have e1:decide ((s:Int)=(s:Int))=true:=by simp
   simp only[go_sem,q2h,hB,eNode,nat,bare,Int.cast_ofNat_Int,Int.reduceEq,decide_true,decide_false,z2s,q0l,x0r,z0a z2t]
   rw[z2r]
   exact hT _
 | @eq s _ h1 h2=>
   simp only[go_sem,q2h,hB,eNode,nat,bare,Int.cast_ofNat_Int,Int.reduceEq,decide_true,decide_false,z2s,q0l,z0a z2t]
   rw[z2r]
   exact hT _
 | @cmp o s _ h hs=>
   have hp:=q2j (ss:=[s,s]) (s:=s) (t:= .no) (by simp) (by simp)
   have hp2:=j2g hs
   rw[List.map_cons,List.map_cons,List.map_nil,nat] at hp
   rw[nat] at hp2
   rcases h with rfl | rfl
   all_goals
    simp only[go_sem,q2h,hB,eNode,nat,bare,Int.cast_ofNat_Int,Int.reduceEq,decide_true,decide_false,z2s,z0a hp,z0a hp2,z0a z2t]
    rw[z2r]
    exact hT _
 | @add k s _ h hs=>
   have hp:=q2j (ss:=List.replicate k s) (s:=s) (t:= .no) v4f hl
   have hp2:=j2g hs
   have e1:∀ h',z1n h' 1 (.sl ((List.replicate k s).map nat) .no) (.int .i64 0)=some (.iptr [.int .i64 (s:Int)] 0,h'):=fun h'=>k9j h
   rw[show nat s= .int .i64 (s:Int) from rfl] at hp hp2
   have hX:idsL ((List.replicate k s).map nat)=[]:=z6m
   generalize (List.replicate k s).map nat=X at hp e1 hX
   simp only[go_sem,q2h,hB,z0y,eNode,nat,bare,Int.cast_ofNat_Int,Int.reduceEq,decide_true,decide_false,e1,z0a hp,z0a hp2,z0a z2t]
   refine⟨by simp[z0v,apart,z0h,z0s,z0w,AOp.isCall,hB,AV.ids,hX], ?_⟩
   rw[z2r]
   exact hT _
 | @mul s m _ hs hm=>
   have hp:=q2j (ss:=[s,s]) (s:=s) (t:= .no) (by simp) (by simp)
   have hp2:=j2g hs
   rw[List.map_cons,List.map_cons,List.map_nil,nat] at hp
   rw[nat] at hp2
   simp only[go_sem,q2h,hB,z0y,eNode,nat,bare,Int.cast_ofNat_Int,Int.reduceEq,decide_true,decide_false,z2s,z0a hp,z0a hp2,z0a z2t]
   refine⟨by simp[z0v,apart,z0h,z0s,z0w,AOp.isCall,hB,AV.ids,idsL], ?_⟩
   rw[z2r]
   exact hT _
 | div h h1 h5=>
   rcases h with rfl | rfl
   all_goals
    simp only[go_sem,q2h,hB,eNode,nat,Int.cast_ofNat_Int,Int.reduceEq,decide_true,decide_false,z2s,z0a z2t]
    rw[z2r]
    exact hT _
 | select=>
   simp only[go_sem,q2h,hB,eNode,nat,bare,Int.cast_ofNat_Int,Int.reduceEq,decide_true,decide_false,z2s,q0l,z0a z2t]
   rw[z2r]
   exact hT _
 | store=>
   obtain⟨u,hu⟩:∃ u,∀ h:List AObj,slV h (some 1) (.sl [.int .i64 4, .int .i64 2, .int .i64 2] .no) (some (.int .i64 1)) none none=some (.sl [.int .i64 2, .int .i64 2] u,h):=⟨.no,fun h=>by simp[slV,z3c,z5l,z5m,AV.cells]⟩
   have hp:=q2j (ss:=[2,2]) (s:=2) (t:=u) (by simp) (by simp)
   rw[List.map_cons,List.map_cons,List.map_nil,nat,Int.cast_ofNat_Int] at hp
   simp only[go_sem,q2h,hB,eNode,nat,bare,Int.cast_ofNat_Int,Int.reduceEq,decide_true,decide_false,z2s,hu,z0a hp,z0a z2t]
   rw[z2r]
   exact hT _
 | const=>
   simp only[go_sem,q2h,hB,eNode,nat,bare,Int.cast_ofNat_Int,Int.reduceEq,decide_true,decide_false,z2s,z0a z2t]
   rw[z2r]
   exact hT _
section
variable {U:List Var} [UOk U]
structure Tr where
 s:Nat
 len:Nat
 dep:Nat
def z9j (F:List Tr):Nat:=(F.map (·.len)).sum
theorem y8m:z9j []=0:=rfl
theorem q5s {f:Tr} {F:List Tr}:z9j (f::F)=f.len + z9j F:=by simp[z9j]
theorem x0s {F G:List Tr}:z9j (F++G)=z9j F + z9j G:=by simp[z9j]
theorem k3n {F:List Tr} {j:Nat} (hj:j < F.length):z9j (F.take (j + 1))=z9j (F.take j) + F[j].len:=by
 rw[List.take_succ_eq_append_getElem hj,x0s]
 simp[z9j]
def z4w (i:Nat):List Tr→List Nat
 | []=>[]
 | f::F=>i::z4w (i + f.len) F
theorem q0m {i:Nat} {F:List Tr}:(z4w i F).length=F.length:=by
 induction F generalizing i with
 | nil=>rfl
 | cons f F ih=>simp[z4w,ih]
theorem q5t {i:Nat} {F G:List Tr}:z4w i (F++G)=z4w i F++z4w (i + z9j F) G:=by
 induction F generalizing i with
 | nil=>rfl
 | cons f F ih=>simp only[List.cons_append,z4w,ih,q5s,Nat.add_assoc]
theorem j8o {i j:Nat} {F:List Tr} (hj:j < F.length):(z4w i F)[j]? =some (i + z9j (F.take j)):=by
 induction F generalizing i j with
 | nil=>simp at hj
 | cons f F ih=>
   cases j with
   | zero=>simp[z4w,z9j]
   | succ j=>
     simp only[z4w,List.getElem?_cons_succ,List.take_succ_cons,q5s]
     rw[ih (by simpa using hj),Nat.add_assoc]
structure Pt where
 sort:Nat
 depth:Nat
 fin:Nat
def ePt (p:Pt):AV:= .agg [.int .i64 (p.sort:Int), .int .i64 (p.depth:Int), .int .i64 (p.fin:Int)]
def PartsOk (P:List Pt) (i:Nat) (F:List Tr):Prop:=∀ j f,F[j]? =some f→P[i + z9j (F.take j)]? =some ⟨f.s,f.dep,i + z9j (F.take j) + f.len⟩
theorem PartsOk.nil {P:List Pt} {i:Nat}:PartsOk P i []:=fun j f h=>by simp at h
theorem PartsOk.node {P:List Pt} {i:Nat} {K G:List Tr} {s dep:Nat} (h:PartsOk P (i + 1) (K++G)) (hi:i < P.length):PartsOk (P.set i ⟨s,dep,i + (1 + z9j K)⟩) i (⟨s,1 + z9j K,dep⟩::G):=by
 intro j f hj
 cases j with
 | zero=>
   simp at hj
   subst hj
   simp[z9j,hi]
 | succ j=>
   simp only[List.getElem?_cons_succ] at hj
   have:=h (K.length + j) f (by rw[List.getElem?_append_right (by omega)];simpa using hj)
   rw[List.take_append,List.take_of_length_le (by omega),x0s,show K.length + j - K.length=j by omega] at this
   simp only[List.take_succ_cons,q5s]
   rw[List.getElem?_set_ne (by omega)]
   rw[show i + (1 + z9j K + z9j (G.take j))=i + 1 + (z9j K + z9j (G.take j)) by omega]
   exact this
theorem NodeOk.pos {V:List Var} {n:Node} {ss:List Nat} {s:Nat} {ks:Term} (hn:NodeOk V n ss s ks) (hV:∀ v∈V,v∈U):1≤s∧s≤4:=by
 cases hn with
 | var h=>exact q5r (hV _ h)
 | cmp h hs=>omega
 | add h hs=>omega
 | mul hs hn=>omega
 | ite h1 h2=>omega
 | eq h1 h2=>omega
 | _=>omega
theorem NodeOk.mul_num {V:List Var} {n:Node} {ss:List Nat} {s:Nat} {ks:Term} (hn:NodeOk V n ss s ks) (h:n.op=15):∃ m r,ks=m::r∧m.op=3:=by
 cases hn with
 | mul hs hm=>exact⟨_,_,rfl,hm⟩
 | bool h'=>exact absurd h (by simp[bare];omega)
 | andor h'=>exact absurd h (by simp[bare];omega)
 | cmp h' _=>exact absurd h (by simp[bare];omega)
 | div h' _ _=>exact absurd h (by simp;omega)
 | _=>simp[bare] at h
def k3o (B i:Nat) (F:List Tr) (r:AV) (o:AObj):Prop:=(F=[]∧r= .sl [] .nil)∨(F≠[]∧∃ g,r= .ob (B + 9) g 0 F.length∧o= .blk g ((z4w i F).reverse.map nat) true true 0)
def z7z (D:List AObj) (B:Nat) (t:Term) (gP gV g2:Nat) (P:List Pt) (o3 o4 o5 o6 o7 o8 o9:AObj):List AObj:=
 D++[.blk gP (P.map ePt) true false 0, .blk gV [.agg [z0i t, .ob (B + 0) gP 0 t.length]] false false 0, .blk g2 [.ptr (B + 1) gV 0 0] false false 0,o3,o4,o5,o6,o7,o8,o9]
def j5i (D:List AObj) (B:Nat) (t:Term) (gP gV g2:Nat) (i:Nat) (F:List Tr) (q:St):Prop:=
 ∃ P o3 o4 o5 o6 o7 o8 o9,P.length=t.length∧PartsOk P i F∧q.ts 0=z0i t∧q.ts 4= .ptr (B + 2) g2 0 0∧q.ts 6= .int .i64 ((i:Int) - 1)∧k3o B i F (q.ts 5) o9∧q.h=z7z D B t gP gV g2 P o3 o4 o5 o6 o7 o8 o9
theorem j2i {D:List AObj} {B:Nat} {t:Term} {gP gV g2 i:Nat} {K G:List Tr} {r:AV} {o:AObj} (hB:D.length=B) (hr:k3o B (i + 1) (K++G) r o) (hl:(K++G).length≤2 ^ 20):
  (∀ h,v7o h .sl r=some (.int .i64 ((K++G).length:Int),h))∧
  ∃ kv rv:AV,(∀ P o3 o4 o5 o6 o7 o8,slV (z7z D B t gP gV g2 P o3 o4 o5 o6 o7 o8 o) (some 1) r (some (.int .i64 (G.length:Int))) none none=some (kv,z7z D B t gP gV g2 P o3 o4 o5 o6 o7 o8 o))∧
    (∀ P o3 o4 o5 o6 o7 o8,slV (z7z D B t gP gV g2 P o3 o4 o5 o6 o7 o8 o) (some 1) r none (some (.int .i64 (G.length:Int))) none=some (rv,z7z D B t gP gV g2 P o3 o4 o5 o6 o7 o8 o))∧
    z7g kv=some K.length∧
    (∀ j P o3 o4 o5 o6 o7 o8,j < K.length→q7a (z7z D B t gP gV g2 P o3 o4 o5 o6 o7 o8 o) kv (K.length - 1 - j)=some (nat (i + 1 + z9j (K.take j))))∧
    (∀ (f:Tr) P o3 o4 o5 o6 o7 g8 gen,f.len=1 + z9j K→z0n (z7z D B t gP gV g2 P o3 o4 o5 o6 o7 (.blk g8 [nat i] true false 0) o) (B + 9) gen 1 8 true rv (.ob (B + 8) g8 0 1)=some (.ob (B + 9) gen 0 (G.length + 1),z7z D B t gP gV g2 P o3 o4 o5 o6 o7 (.blk g8 [nat i] true false 0) (.blk gen ((z4w i (f::G)).reverse.map nat) true true 0))):=by
 have hsrc:∀ P o3 o4 o5 o6 o7 g8,z4e (z7z D B t gP gV g2 P o3 o4 o5 o6 o7 (.blk g8 [nat i] true false 0) o) (.ob (B + 8) g8 0 1)=some [nat i]:=fun P o3 o4 o5 o6 o7 g8=>
  q1g (k:=8) (es:=[nat i]) (w:=false) hB rfl rfl
 rcases hr with ⟨hF,rfl⟩ | ⟨hF,g,rfl,rfl⟩
 ·have hK:K=[]:=(List.append_eq_nil_iff.1 hF).1
  have hG:G=[]:=(List.append_eq_nil_iff.1 hF).2
  subst hK;subst hG
  refine⟨fun h=>rfl, .sl [] .nil, .sl [] .nil,fun _ _ _ _ _ _ _=>rfl,fun _ _ _ _ _ _ _=>rfl,rfl,fun j _ _ _ _ _ _ _ hj=>by simp at hj,fun f P o3 o4 o5 o6 o7 g8 gen hf=> ?_⟩
  unfold z0n
  rw[hsrc]
  simp[z0o,nat,AV.def?,AV.cells,AV.one,z1c,z7z,z1t hB,z4w]
 ·have hN:(K++G).length=K.length + G.length:=List.length_append
  have hgr:(z7z D B t gP gV g2 [] .dead .dead .dead .dead .dead .dead (.blk g ((z4w (i + 1) (K++G)).reverse.map nat) true true 0)).length=B + 10:=by simp[z7z,hB]
  have hblk:∀ P o3 o4 o5 o6 o7 o8,z1s (z7z D B t gP gV g2 P o3 o4 o5 o6 o7 o8 (.blk g ((z4w (i + 1) (K++G)).reverse.map nat) true true 0)) (B + 9) g=some ((z4w (i + 1) (K++G)).reverse.map nat,true,true,0):=fun P o3 o4 o5 o6 o7 o8=>by
   unfold z7z
   rw[z2i hB]
   simp[z1s]
  have hlen:((z4w (i + 1) (K++G)).reverse.map nat).length=(K++G).length:=by simp[q0m]
  have hhead:z5m 1 ((z4w (i + 1) (K++G)).reverse.map nat)=true:=by
   cases (z4w (i + 1) (K++G)).reverse <;> rfl
  have hall:z0o 1 ((z4w (i + 1) (K++G)).reverse.map nat)=true:=z4i
  refine⟨fun h=>rfl, .ob (B + 9) g G.length K.length, .ob (B + 9) g 0 G.length,fun P o3 o4 o5 o6 o7 o8=> ?_,fun P o3 o4 o5 o6 o7 o8=> ?_, ?_,fun j P o3 o4 o5 o6 o7 o8 hj=> ?_,fun f P o3 o4 o5 o6 o7 g8 gen hf=> ?_⟩
  ·simp only[slV,z3c,hblk,z5l,Int.natCast_nonneg,if_true,Int.toNat_natCast]
   rw[if_pos ⟨by omega,hhead,by omega,by omega⟩,Option.map_some]
   rw[Nat.zero_add,show (K++G).length - G.length=K.length by omega]
  ·simp only[slV,z3c,hblk,z5l,Int.natCast_nonneg,if_true,Int.toNat_natCast]
   rw[if_pos ⟨by omega,hhead,by omega,by omega⟩,Option.map_some]
   rfl
  ·simp only[z7g]
   rw[if_pos (by omega)]
  ·unfold q7a
   simp only[z4e,q0r,hblk]
   rw[if_pos (by omega)]
   have h1:(((List.map nat (z4w (i + 1) (K++G)).reverse).drop G.length).take K.length)[K.length - 1 - j]? =some (nat (i + 1 + z9j (K.take j))):=by
    rw[List.getElem?_take_of_lt (by omega),List.getElem?_drop,List.getElem?_map,List.getElem?_reverse (by rw[q0m];omega),q0m,show (K++G).length - 1 - (G.length + (K.length - 1 - j))=j by omega,q5t,List.getElem?_append_left (by rw[q0m];omega),j8o hj]
    rfl
   simp only[h1]
   rfl
  ·have hGK:(List.map nat (z4w (i + 1) (K++G)).reverse).take G.length=(z4w (i + 1 + z9j K) G).reverse.map nat:=by
    rw[←List.map_take,q5t,List.reverse_append,List.take_left' (by simp[q0m])]
   have hnew:(z4w i (f::G)).reverse.map nat=(z4w (i + 1 + z9j K) G).reverse.map nat++[nat i]:=by
    rw[z4w,hf,List.reverse_cons,List.map_append,show i + (1 + z9j K)=i + 1 + z9j K by omega]
    rfl
   unfold z0n
   rw[hsrc]
   have hpos:0 < (K++G).length:=List.length_pos_iff.2 hF
   have hgt:¬ (G.length + 1) * (8 + 1) > z1c:=by unfold z1c;omega
   have ha1:z0o 1 [nat i]=true:=rfl
   simp only[ha1,hblk,hall,List.length_singleton,decide_eq_true_eq,hgt,Bool.not_true,Bool.false_eq_true,if_false,beq_self_eq_true,decide_false,Bool.or_self,List.isEmpty_cons,if_true,Nat.zero_le,hlen,true_and]
   rw[if_pos ⟨by omega,hpos⟩,hGK,←hnew]
   congr 2
   simp only[z7z,z1t hB,List.set_cons_succ,List.set_cons_zero]
end
section
variable {U:List Var} [UOk U]
section
variable {h:List AObj} {base g k:Nat} {ts:Tmps} {z:AV} {dst:Option Nat} {os:List AOper} {clk:Nat} {ks:List Kf} {Q:Post}
def bwV (h:List AObj) (f:Nat) (v:AV):Option (AV×List AObj):=if (z7g v).isSome then some (.bwd f v,h) else none
theorem y4g {f n:Nat} {v:AV} (hr:z7g v=some n):bwV h f v=some (.bwd f v,h):=by simp[bwV,hr]
theorem j8p {f:Nat} {x:AOpd}:O Gam base .plain g (⟨dst, .backward f x,none⟩::os) ⟨ts,h,clk⟩ ks Q=PP Gam base (bwV h f (x.ev ts)) dst g os ts clk ks Q:=by
 rw[q4b rfl];rfl
def u9i (h:List AObj) (s g:Nat) (z:AV) (v:AV):Option (AV×List AObj):=
 if !z.def? then none else match z7h h [v] with
  | some vs=>(z4j z.cells.length [z] [0] vs).map fun es=>(.ob s g 0 1,(freezeAll h (z3y [v])).set s (.blk g es true false 0))
  | none=>none
theorem k9k {s:Nat} {K J:IntKind} {a b:Int}:u9i h s g (.int K a) (.int J b)=some (.ob s g 0 1,h.set s (.blk g [.int J b] true false 0)):=(rfl)
theorem u5i {x:AOpd}:O Gam base .plain g (⟨dst, .buildSlice k true z 1 [(0,x)],none⟩::os) ⟨ts,h,clk⟩ ks Q=PP Gam base (u9i h (base + k) g z (x.ev ts)) dst g os ts clk ks Q:=by
 rw[q4b rfl]
 congr 1
end
attribute [go_sem] j8p u5i k9k
theorem q8i {D:List AObj} {B gP n i:Nat} {P:List Pt} {L:List AObj} {p:Pt} (hB:D.length=B) (hi:P[i]? =some p) (hn:P.length=n):z1n (D++ .blk gP (P.map ePt) true false 0::L) 3 (.ob (B + 0) gP 0 n) (.int .i64 (i:Int))=some (.ptr (B + 0) gP i 0,D++ .blk gP (P.map ePt) true false 0::L):=by
 have hb:z1s (D++ .blk gP (P.map ePt) true false 0::L) (B + 0) gP=some (P.map ePt,true,false,0):=by rw[z2i hB];simp[z1s]
 have hlt:i < n:=by
  rw[List.getElem?_eq_some_iff] at hi
  have:=hi.1
  omega
 have h1:(P.map ePt)[0 + i]? =some (ePt p):=by rw[Nat.zero_add,List.getElem?_map,hi];rfl
 simp only[z1n,Int.natCast_nonneg,if_true,hb,Int.toNat_natCast,h1]
 rw[if_pos ⟨hlt,rfl⟩,Nat.zero_add]
theorem x5s {P:List Pt} {i:Nat} {p:Pt} (hi:P[i]? =some p):(P.map ePt)[i]? =some (.agg [.int .i64 (p.sort:Int), .int .i64 (p.depth:Int), .int .i64 (p.fin:Int)]):=by rw[List.getElem?_map,hi];rfl
theorem z2p {t:Term} {i:Nat} {n:Node} {h:List AObj} {u:Tip} {k:IntKind} (hi:t[i]? =some n):z1n h 5 (.sl (t.map eNode) u) (.int k (i:Int))=some (.iptr [.int .i64 (n.op:Int), .int .i64 (n.sort:Int), .str n.name, .str n.num, .int .i64 (n.kids:Int)] 0,h):=by
 have hlt:i < t.length:=by
  rw[List.getElem?_eq_some_iff] at hi
  exact hi.1
 have h1:t[i]=n:=by
  rw[List.getElem?_eq_some_iff] at hi
  exact hi.2
 rw[z3j (f:=eNode) hlt (cs:=[.int .i64 (n.op:Int), .int .i64 (n.sort:Int), .str n.name, .str n.num, .int .i64 (n.kids:Int)]) (esz:=5) (by rw[h1];rfl) rfl]
def y4h:ACode:=(.region 1 [⟨(some 12), .move (.tmp 66),none⟩] [])
def y4i:ACode:=(.block 3 (.seq (.region 12 [⟨(some 67), .load none (.tmp 10),none⟩,⟨(some 68), .load none (.tmp 4),none⟩,⟨(some 69), .nilCheck (.tmp 68),none⟩,⟨(some 70), .fieldAddr (.tmp 69) 1,none⟩,⟨(some 71), .load none (.tmp 70),none⟩,⟨(some 72), .move (.tmp 12),none⟩,⟨(some 73), .indexAddr none 3 (.tmp 71) (.tmp 72),none⟩,⟨(some 74), .fieldAddr (.tmp 73) 0,none⟩,⟨(some 75), .load none (.tmp 74),none⟩,⟨(some 76), .buildSlice 6 false (.int .i64 0) 1 [(0,(.tmp 75))],none⟩,⟨(some 77), .append 7 1 8 false (.tmp 67) (.tmp 76),none⟩,⟨none, .store 1 (.tmp 10) (.tmp 77),none⟩] [(0,9)]) (.seq (.region 14 [⟨(some 78), .fieldAddr (.tmp 9) 1,none⟩,⟨(some 79), .load none (.tmp 78),none⟩,⟨(some 80), .load none (.tmp 4),none⟩,⟨(some 81), .nilCheck (.tmp 80),none⟩,⟨(some 82), .fieldAddr (.tmp 81) 1,none⟩,⟨(some 83), .load none (.tmp 82),none⟩,⟨(some 84), .move (.tmp 12),none⟩,⟨(some 85), .indexAddr none 3 (.tmp 83) (.tmp 84),none⟩,⟨(some 86), .fieldAddr (.tmp 85) 1,none⟩,⟨(some 87), .load none (.tmp 86),none⟩,⟨(some 88), .binOp .add (.one .int) (.tmp 87) (.const (.int .i64 1)),none⟩,⟨(some 89), .minmax true (.tmp 79) (.tmp 88),none⟩,⟨(some 90), .fieldAddr (.tmp 9) 1,none⟩,⟨none, .store 1 (.tmp 90) (.tmp 89),none⟩] []) (.region 10 [⟨(some 91), .load none (.tmp 4),none⟩,⟨(some 92), .nilCheck (.tmp 91),none⟩,⟨(some 93), .fieldAddr (.tmp 92) 1,none⟩,⟨(some 94), .load none (.tmp 93),none⟩,⟨(some 95), .move (.tmp 12),none⟩,⟨(some 96), .indexAddr none 3 (.tmp 94) (.tmp 95),none⟩,⟨(some 97), .fieldAddr (.tmp 96) 2,none⟩,⟨(some 98), .load none (.tmp 97),none⟩,⟨(some 99), .fieldAddr (.tmp 9) 2,none⟩,⟨none, .store 1 (.tmp 99) (.tmp 98),none⟩] []))))
theorem j8q {Kk:List Tr} {j:Nat} (hj:j < Kk.length):((Kk.take (j + 1)).map (·.s)).map nat=((Kk.take j).map (·.s)).map nat++[.int .i64 (Kk[j].s:Int)]:=by
 rw[List.take_succ_eq_append_getElem hj,List.map_append,List.map_append]
 rfl
theorem k3p {D:List AObj} {B:Nat} {t:Term} {gP gV g2 g3 g4 g5 i d clk:Nat} {N:AV} {P:List Pt} {Kk G:List Tr} {kv:AV} {o6 o7 o8 o9:AObj} {ts:Tmps} {ks:List Kf} {Q:Post} (hB:D.length=B) (hPl:P.length=t.length) (hPo:PartsOk P (i + 1) (Kk++G)) (hKd:∀ f∈Kk,f.dep≤d) (hd:d≤1000) (hKl:Kk.length≤2 ^ 20)
  (hrow:z7g kv=some Kk.length) (helem:∀ j (P:List Pt) o3 o4 o5 o6 o7 o8,j < Kk.length→q7a (D++[.blk gP (P.map ePt) true false 0, .blk gV [.agg [z0i t, .ob (B + 0) gP 0 t.length]] false false 0, .blk g2 [.ptr (B + 1) gV 0 0] false false 0,o3,o4,o5,o6,o7,o8,o9]) kv (Kk.length - 1 - j)=some (nat (i + 1 + z9j (Kk.take j))))
  (h4:ts 4= .ptr (B + 2) g2 0 0) (h9:ts 9= .ptr (B + 4) g4 0 0) (h10:ts 10= .ptr (B + 5) g5 0 0) (h64:ts 64= .bwd 235 kv)
  (hQ:∀ (dep:Nat) (u:Tip) (o6 o7:AObj) (clk':Nat),1≤dep→dep≤d + 1→K Gam B .skip ks ⟨ts,D++[.blk gP (P.map ePt) true false 0, .blk gV [.agg [z0i t, .ob (B + 0) gP 0 t.length]] false false 0, .blk g2 [.ptr (B + 1) gV 0 0] false false 0, .blk g3 [N] false false 0, .blk g4 [.agg [.int .i64 0, .int .i64 (dep:Int), .int .i64 ((i + 1 + z9j Kk:Nat):Int)]] false false 0, .blk g5 [.sl ((Kk.map (·.s)).map nat) u] false false 0,o6,o7,o8,o9],clk'⟩ Q):
  K Gam B (.rangeB (.tmp 64) 65 66 y4h y4i) ks ⟨ts,D++[.blk gP (P.map ePt) true false 0, .blk gV [.agg [z0i t, .ob (B + 0) gP 0 t.length]] false false 0, .blk g2 [.ptr (B + 1) gV 0 0] false false 0, .blk g3 [N] false false 0, .blk g4 [.agg [.int .i64 0, .int .i64 1, .int .i64 ((i + 1:Nat):Int)]] false false 0, .blk g5 [.sl [] .nil] false false 0,o6,o7,o8,o9],clk⟩ Q:=by
 refine k6o (f:=235) (n:=Kk.length) (v:=kv) (by simpa [AOpd.ev] using h64) hrow rfl (fun m h _=>∃ (dep:Nat) (u:Tip) (o6 o7:AObj),1≤dep∧dep≤d + 1∧h=D++[.blk gP (P.map ePt) true false 0, .blk gV [.agg [z0i t, .ob (B + 0) gP 0 t.length]] false false 0, .blk g2 [.ptr (B + 1) gV 0 0] false false 0, .blk g3 [N] false false 0, .blk g4 [.agg [.int .i64 0, .int .i64 (dep:Int), .int .i64 ((i + 1 + z9j (Kk.take (Kk.length - m)):Nat):Int)]] false false 0, .blk g5 [.sl (((Kk.take (Kk.length - m)).map (·.s)).map nat) u] false false 0,o6,o7,o8,o9]∧z7x B 7 o7 u 1) ?_ ?_ ?_
 ·refine⟨1, .nil,o6,o7,Nat.le_refl _,by omega, ?_, .inl rfl⟩
  rw[Nat.sub_self,List.take_zero]
  rfl
 ·rintro m h c Pq hm ⟨dep,u,o6,o7,hd1,hd2,rfl,hu⟩ hfin
  have hj:Kk.length - (m + 1) < Kk.length:=by omega
  have hjm:Kk.length - m=Kk.length - (m + 1) + 1:=by omega
  have hel:=helem (Kk.length - (m + 1)) P (.blk g3 [N] false false 0) (.blk g4 [.agg [.int .i64 0, .int .i64 (dep:Int), .int .i64 ((i + 1 + z9j (Kk.take (Kk.length - (m + 1))):Nat):Int)]] false false 0) (.blk g5 [.sl (((Kk.take (Kk.length - (m + 1))).map (·.s)).map nat) u] false false 0) o6 o7 o8 hj
  rw[show Kk.length - 1 - (Kk.length - (m + 1))=m by omega] at hel
  refine⟨_,hel, ?_⟩
  have hpo:=hPo (Kk.length - (m + 1)) Kk[Kk.length - (m + 1)] (by rw[List.getElem?_append_left hj];simp[hj])
  have htk:(Kk++G).take (Kk.length - (m + 1))=Kk.take (Kk.length - (m + 1)):=List.take_append_of_le_length (by omega)
  rw[htk] at hpo
  have hfd:=hKd _ (List.getElem_mem hj)
  have hls:=k3n hj
  have hss:=j8q hj
  rw[←hjm] at hls hss
  generalize Kk[Kk.length - (m + 1)]=f at hpo hfd hls hss
  generalize hst:i + 1 + z9j (Kk.take (Kk.length - (m + 1)))=st at hpo
  have hget:=x5s hpo
  dsimp only at hget
  have hix:∀ L,z1n (D++ .blk gP (P.map ePt) true false 0::L) 3 (.ob (B + 0) gP 0 t.length) (.int .i64 (st:Int))=some (.ptr (B + 0) gP st 0,D++ .blk gP (P.map ePt) true false 0::L):=fun L=>q8i hB hpo hPl
  have e1:IntKind.i64.wrap ((f.dep:Int) + 1)=((f.dep + 1:Nat):Int):=z0f (by omega) (by omega)
  have e2:(if ((f.dep + 1:Nat):Int) > (dep:Int) then ((f.dep + 1:Nat):Int) else (dep:Int))=((max dep (f.dep + 1):Nat):Int):=by split <;> omega
  simp only[go_sem,y4h,y4i,z0y,h4,h9,h10,hB,nat,hix,hget]
  rw[show [AV.int .i64 (f.s:Int)]=[f.s].map nat from rfl,z0k hB rfl hu z4i z4i (by simp only[List.length_map,List.length_singleton,List.length_take];omega)]
  have hst2:st + f.len=i + 1 + z9j (Kk.take (Kk.length - m)):=by omega
  simp only[go_sem,h4,h9,h10,hB,nat,hix,hget,e1,e2,←hss,hst2]
  exact⟨by simp[z0v,apart,z0h,z0s,z0w,AOp.isCall,hB],hfin _ ⟨max dep (f.dep + 1),_,_,_,by omega,by omega,rfl, .inr (.inr ⟨_,rfl,rfl⟩)⟩⟩
 ·rintro h c ⟨dep,u,o6,o7,hd1,hd2,rfl,hu⟩
  rw[Nat.sub_zero,List.take_length]
  exact hQ dep u o6 o7 c hd1 hd2
theorem j8r {D L:List AObj} {B gP i:Nat} {P:List Pt} {p q:Pt} (hB:D.length=B) (hi:P[i]? =some q):z4y (D++ .blk gP (P.map ePt) true false 0::L) 3 (.agg [.int .i64 (p.sort:Int), .int .i64 (p.depth:Int), .int .i64 (p.fin:Int)]) (.ptr (B + 0) gP i 0)=some (.undef,D++ .blk gP ((P.set i p).map ePt) true false 0::L):=by
 have hb:z1s (D++ .blk gP (P.map ePt) true false 0::L) (B + 0) gP=some (P.map ePt,true,false,0):=by rw[z2i hB];simp[z1s]
 have hp:∀ h:List AObj,pub h (.agg [.int .i64 (p.sort:Int), .int .i64 (p.depth:Int), .int .i64 (p.fin:Int)])=some (.agg [.int .i64 (p.sort:Int), .int .i64 (p.depth:Int), .int .i64 (p.fin:Int)],h):=fun h=>rfl
 have hg:(P.map ePt)[i]? =some (ePt q):=by rw[List.getElem?_map,hi];rfl
 rw[z6y,hb]
 simp only[hg,if_true,hp]
 rw[if_pos ⟨rfl,rfl,rfl,fun _=>⟨Nat.zero_le _,rfl⟩⟩]
 have:z8a (ePt q).cells 0 (AV.agg [.int .i64 (p.sort:Int), .int .i64 (p.depth:Int), .int .i64 (p.fin:Int)]).cells=some [.int .i64 (p.sort:Int), .int .i64 (p.depth:Int), .int .i64 (p.fin:Int)]:=rfl
 rw[this,Option.map_some,z1t hB,List.map_set]
 rfl
theorem k3q {D:List AObj} {B:Nat} {t:Term} {gP gV g2:Nat} {V:List Var} {n:Node} {ss:List Nat} {s d:Nat} {ksT pre post:Term} {Kk G:List Tr} {st:St} {ks:List Kf} {Q:Post} (hB:D.length=B) (hn:NodeOk V n ss s ksT) (hV:∀ v∈V,v∈U) (hk:n.kids=ss.length) (ht:t=pre++n::(ksT++post)) (hKs:Kk.map (·.s)=ss) (hKd:∀ f∈Kk,f.dep≤d) (hd:d≤1000) (hN:(Kk++G).length≤2 ^ 20) (htl:t.length≤2 ^ 20)
  (hst:j5i D B t gP gV g2 (pre.length + 1) (Kk++G) st)
  (hQ:∀ st' dep,dep≤d + 1→j5i D B t gP gV g2 pre.length (⟨s,1 + z9j Kk,dep⟩::G) st'→K Gam B (.loop q5p) ks st' Q):K Gam B (.loop q5p) ks st Q:=by
 obtain⟨ts,h,clk⟩:=st
 obtain⟨P,o3,o4,o5,o6,o7,o8,o9,hPl,hPo,h0,h4,h6,hr,rfl⟩:=hst
 dsimp only at h0 h4 h6 hr
 generalize hip:pre.length=i at *
 have hKlen:Kk.length=n.kids:=by rw[hk,←hKs,List.length_map]
 have hNl:(Kk++G).length=n.kids + G.length:=by rw[List.length_append,hKlen]
 have hss:ss.length≤2 ^ 20:=by omega
 have hti:t[i]? =some n:=by
  rw[ht,List.getElem?_append_right (by omega),show i - pre.length=0 by omega]
  rfl
 have hilt:i < t.length:=by
  rw[List.getElem?_eq_some_iff] at hti
  exact hti.1
 obtain⟨hlen,kv,rv,hkv,hrv,hrow,helem,happ⟩:=j2i (t:=t) (gP:=gP) (gV:=gV) (g2:=g2) hB hr hN
 simp only[z7z] at hkv hrv helem happ⊢
 generalize h5:ts 5=r5 at *
 have e0:((i + 1:Nat):Int) - 1=(i:Int):=by omega
 rw[e0] at h6
 have e1:decide ((0:Int)≤(i:Int))=true:=by rw[decide_eq_true_iff];omega
 have e2:decide ((n.kids:Int) < 0)=false:=by rw[decide_eq_false_iff_not];omega
 have e3:decide (((Kk++G).length:Int) < (n.kids:Int))=false:=by rw[decide_eq_false_iff_not];omega
 have e4:IntKind.i64.wrap (((Kk++G).length:Int) - (n.kids:Int))=(G.length:Int):=by rw[z0f (by omega) (by omega)];omega
 have e5:IntKind.i64.wrap ((i:Int) + 1)=((i + 1:Nat):Int):=z0f (by omega) (by omega)
 have e6:IntKind.i64.wrap ((i:Int) - 1)=(i:Int) - 1:=z0f (by omega) (by omega)
 have h249:Pure Gam 123 [.agg [.int .i64 (n.op:Int), .int .i64 (n.sort:Int), .str n.name, .str n.num, .int .i64 (n.kids:Int)]] (.bool true):=k3k hn hV
 have h250:Pure Gam 124 [.int .i64 (n.op:Int), .int .i64 (n.kids:Int)] (.bool true):=k3l hn
 rw[z0i] at h0
 refine z2e ?_
 simp only[go_sem,q5p,h0,h4,h5,h6,hB,e1,z2p hti,e2,hlen,e3,z0a h249,z0a h250,Bool.not_true,e4,e5,hkv,y4g hrow]
 refine k3p (P:=P) hB hPl hPo hKd hd (by omega) hrow helem (by simp[z0c,h4]) (by simp[z0c]) (by simp[z0c]) (by simp[z0c]) ?_
 intro dep u o6 o7 clk' hd1 hd2
 have h252:∀ u,Pure Gam 125 [.agg [.int .i64 (n.op:Int), .int .i64 (n.sort:Int), .str n.name, .str n.num, .int .i64 (n.kids:Int)], .sl (ss.map nat) u] (.int .i64 (s:Int)):=fun u=>k3m hn hss
 have hs:=hn.pos hV
 have e7:decide ((s:Int)=0)=false:=by rw[decide_eq_false_iff_not];omega
 obtain⟨q,hq⟩:∃ q,P[i]? =some q:=⟨P[i],by simp[hPl,hilt]⟩
 have happ':=fun P o3 o4 o5 o6 o7 g8 gen=>happ ⟨s,1 + z9j Kk,dep⟩ P o3 o4 o5 o6 o7 g8 gen rfl
 have hPo':=PartsOk.node (s:=s) (dep:=dep) hPo (by omega)
 have hst:=fun L=>j8r (L:=L) (B:=B) (gP:=gP) (p:=⟨s,dep,i + 1 + z9j Kk⟩) hB hq
 simp only at hst
 simp only[nat] at happ'
 have fin:∀ (ts':Tmps) (P':List Pt) (o3 o4 o5 o6 o7 o8:AObj) (gen clk':Nat),P'=P.set i ⟨s,dep,i + 1 + z9j Kk⟩→ts' 0= .sl (t.map eNode) .no→ts' 4= .ptr (B + 2) g2 0 0→ts' 5= .ob (B + 9) gen 0 (G.length + 1)→ts' 6= .int .i64 ((i:Int) - 1)→
   K Gam B (.loop q5p) ks ⟨ts',z7z D B t gP gV g2 P' o3 o4 o5 o6 o7 o8 (.blk gen ((z4w i (⟨s,1 + z9j Kk,dep⟩::G)).reverse.map nat) true true 0),clk'⟩ Q:=by
  intro ts' P' o3 o4 o5 o6 o7 o8 gen clk' hP' q0 q4 q5 q6
  refine hQ _ dep hd2 ⟨P',_,_,_,_,_,_,_,by rw[hP',List.length_set];exact hPl, ?_,q0,q4,q6, .inr ⟨by simp,gen,q5,rfl⟩,rfl⟩
  rw[hP',Nat.add_assoc]
  exact hPo'
 by_cases h15:n.op=15
 ·obtain⟨m,r,hmr,hm3⟩:=hn.mul_num h15
  have ht1:t[i + 1]? =some m:=by
   rw[ht,List.getElem?_append_right (by omega),show i + 1 - pre.length=1 by omega,hmr]
   rfl
  have f1:decide ((n.op:Int)=15)=true:=by rw[decide_eq_true_iff];omega
  have f2:decide ((m.op:Int)=3)=true:=by rw[decide_eq_true_iff];omega
  simp only[go_sem,h0,h4,h5,h6,hB,hKs,z0a (h252 _),e7,f1,e5,z2p ht1,f2,Bool.not_true,q8i hB hq hPl,hst,hlen,e4,hrv,happ',e6]
  exact fin _ _ _ _ _ _ _ _ _ _ rfl (by simp[z0c,h0]) (by simp[z0c,h4]) (by simp[z0c]) (by simp[z0c])
 ·have f1:decide ((n.op:Int)=15)=false:=by rw[decide_eq_false_iff_not];omega
  simp only[go_sem,h0,h4,h5,h6,hB,hKs,z0a (h252 _),e7,f1,q8i hB hq hPl,hst,hlen,e4,hrv,happ',e6]
  exact fin _ _ _ _ _ _ _ _ _ _ rfl (by simp[z0c,h0]) (by simp[z0c,h4]) (by simp[z0c]) (by simp[z0c])
end
def RVG (x:Option (List AV)) (R:AV→List AObj→Prop) (h:List AObj):Prop:=
 match x with
 | some vs=>(z1l vs).obs=[]∧R (z1l vs).cv h
 | none=>False
def u5j (rs:List ARes) (R:AV→List AObj→Prop):Post:=fun e s=>(∀ i,e≠ .exit i)∧RVG (z1z s.h s.ts rs) R s.h
theorem k9l {rs:List ARes} {R:AV→List AObj→Prop} {ts:Tmps} {h:List AObj} {c:Nat}:u5j rs R .ret ⟨ts,h,c⟩=RVG (z1z h ts rs) R h:=by simp[u5j]
theorem q5u {vs:List AV} {R:AV→List AObj→Prop} {h:List AObj} (ho:(z1l vs).obs=[]):RVG (some vs) R h=R (z1l vs).cv h:=by simp[RVG,ho]
attribute [go_sem] k9l
theorem x0t {f:Nat} {args az:List AV} {h:List AObj} {clk:Nat} {af:AFun} {Q:AV→List AObj→Nat→Prop} (hext:Gam.ext f=none) (hfn:Gam.fn f=some af) (hb:af.byref=[]) (ho:af.owned=false) (hobs:z3y args=[]) (has:cvL args=az) (hids:idsL az=[])
  (hw:∀ (D:List AObj) (B:Nat) (R:AV→List AObj→Prop),D.length=B→B=h.length→(∀ v L',(∃ i∈v.ids,B≤i)→(∀ c,Q v (h++L') c)→R v (D++L'))→K Gam B af.body [] ⟨z9z az,D++List.replicate af.nslots .dead,clk⟩ (u5j af.results R)):WC Gam f args h clk Q:=by
 obtain⟨k,e,s,he,hne,hend⟩:=hw (maskFrom [] 0 h) h.length (fun v h'=>(∃ i∈v.ids,h.length≤i)∧∀ c,Q v (h++h'.drop h.length) c) (z5b) rfl (fun v L' hi hq=>⟨hi,by
  rw[List.drop_left' z5b]
  exact hq⟩)
 have hp:z1d h af.byref 0 args=some az:=by rw[hb,z1o hobs,has]
 have hl:z0p af.byref 0 args=[]:=by rw[hb];exact z5a hobs
 unfold RVG at hend
 split at hend
 ·rename_i vs hr
  obtain⟨hob,⟨i,hi1,hi2⟩,hq⟩:=hend
  have hc:=q3y (h:=s.h) hob
  refine⟨k,(z1l vs).cv,h++s.h.drop h.length,s.clk, ?_,hq _⟩
  have hall:((z1l vs).cv.ids.all fun x=>decide (x < h.length))=false:=by
   rw[List.all_eq_false]
   exact⟨i,hi1,by simp;omega⟩
  unfold z5f z0q
  simp only[hext,hfn,hp,hl,freezeAll,hids,reach,he,ho,Bool.false_eq_true,if_false,hr,hc,hob,z7t,List.map_nil,List.flatten_nil,List.append_nil,ite_self]
  cases e with
  | exit i=>exact absurd rfl (hne i)
  | norm=>simp[hall]
  | ret=>simp[hall]
 ·exact hend.elim
theorem z3g {f base gg clk:Nat} {args:List AV} {h:List AObj} {dst:Option Nat} {os:List AOper} {ts:Tmps} {ks:List Kf} {Q:Post} (hw:WC Gam f args h clk fun v h' c=>O Gam base .plain (gg + 1) os ⟨z8c ts dst v,h',c⟩ ks Q):CK Gam base f args h clk .plain dst gg os ts ks Q:=hw
section
variable {U:List Var} [UOk U]
theorem j2j {D:List AObj} {B:Nat} {t:Term} {gP gV g2:Nat} {V:List Var} {ks:List Kf} {Q:Post} (hB:D.length=B) (hV:∀ v∈V,v∈U) (htl:t.length≤2 ^ 19) {ss:List Nat} {d:Nat} {u:Term} (h:WF V ss d u):∀ {pre post:Term} {G:List Tr} {st:St},d≤1000→t=pre++(u++post)→G.length≤post.length→j5i D B t gP gV g2 (pre.length + u.length) G st→
  (∀ st' Fu,Fu.map (·.s)=ss→z9j Fu=u.length→Fu.length≤u.length→(∀ f∈Fu,f.dep≤d)→j5i D B t gP gV g2 pre.length (Fu++G) st'→K Gam B (.loop q5p) ks st' Q)→K Gam B (.loop q5p) ks st Q:=by
 induction h with
 | nil=>
   intro pre post G st _ _ _ hst hQ
   exact hQ st [] rfl rfl (by simp) (by simp) (by simpa using hst)
 | @cons n ss ks' s d ss' rest h1 h2 h3 h4 ih1 ih2=>
   intro pre post G st hd ht hG hst hQ
   have e1:t=(pre++n::ks')++(rest++post):=by rw[ht];simp
   refine ih2 (pre:=pre++n::ks') (post:=post) hd e1 hG (by
    have e:pre.length + (n::(ks'++rest)).length=(pre++n::ks').length + rest.length:=by simp;omega
    rw[←e]
    exact hst) fun st1 Fr hr1 hr2 hr2' hr3 hr4=> ?_
   have e2:t=(pre++[n])++(ks'++(rest++post)):=by rw[ht];simp
   have hlen:=congrArg List.length ht
   simp only[List.length_append,List.length_cons] at hlen
   refine ih1 (pre:=pre++[n]) (post:=rest++post) (G:=Fr++G) (by omega) e2 (by simp only[List.length_append];omega) (by
    have e:(pre++n::ks').length=(pre++[n]).length + ks'.length:=by simp;omega
    rw[←e]
    exact hr4) fun st2 Fk hk1 hk2 hk2' hk3 hk4=> ?_
   refine k3q (t:=t) (pre:=pre) (post:=rest++post) (Kk:=Fk) (G:=Fr++G) hB h2 hV h3 (by rw[ht];simp) hk1 hk3 (by omega) (by simp only[List.length_append];omega) (by omega) (by simpa using hk4) fun st3 dep hd3 hst3=> ?_
   refine hQ st3 (⟨s,1 + z9j Fk,dep⟩::Fr) (by simp[hr1]) ?_ ?_ ?_ (by simpa using hst3)
   ·rw[q5s,hk2,hr2];simp;omega
   ·simp only[List.length_cons,List.length_append];omega
   ·intro f hf
    rw[List.mem_cons] at hf
    rcases hf with rfl | hf
    ·exact hd3
    ·exact hr3 f hf
theorem y4j {V:List Var} {s d:Nat} {t:Term} {u:Tip} {h:List AObj} {clk:Nat} {Q:AV→List AObj→Nat→Prop} (ht:WF V [s] d t) (hV:∀ v∈V,v∈U) (hl:t.length≤20000) (hd:d≤1000)
  (hQ:∀ gP gV g2 P dep o3 o4 o5 o6 o7 o8 o9 c,P.length=t.length→P[0]? =some ⟨s,dep,t.length⟩→dep≤d→Q (.tup [.ptr (h.length + 1) gV 0 0, .bool true]) (z7z h h.length t gP gV g2 P o3 o4 o5 o6 o7 o8 o9) c):WC Gam 126 [.sl (t.map eNode) u] h clk Q:=by
 refine x0t rfl u4g rfl rfl rfl (az:=[z0i t]) rfl (by simp[idsL,z1f]) fun D B R hB hBh hR=> ?_
 have hms:∀ h s g,msV h s g (.agg [.int .i64 0, .int .i64 0, .int .i64 0]) 24 (.int .i64 (t.length:Int)) (.int .i64 (t.length:Int))=some (.ob s g 0 t.length,h.set s (.blk g (List.replicate t.length (.agg [.int .i64 0, .int .i64 0, .int .i64 0])) true false 0)):=fun h s g=>x0j rfl (by omega)
 have hrep:List.replicate t.length (AV.agg [.int .i64 0, .int .i64 0, .int .i64 0])=(List.replicate t.length (⟨0,0,0⟩:Pt)).map ePt:=by rw[List.map_replicate];rfl
 have e0:IntKind.i64.wrap ((t.length:Int) - 1)=(t.length:Int) - 1:=z0f (by omega) (by omega)
 simp only[go_sem,y3b,hB,z0i,List.length_map,hms,hrep,e0]
 refine j2j (pre:=[]) (post:=[]) (G:=[]) hB hV (by omega) ht hd (by simp) (by simp) ⟨List.replicate t.length ⟨0,0,0⟩,_,_,_,_,_,_,_,by simp,PartsOk.nil,by simp[z0c,z3l,z0i],by simp[z0c],by simp[z0c], .inl ⟨rfl,by simp[z0c]⟩,rfl⟩ ?_
 rintro ⟨ts,h',clk'⟩ Fu hF1 hF2 hF3 hF4 ⟨P,o3,o4,o5,o6,o7,o8,o9,hPl,hPo,h0,h4,h6,hr,rfl⟩
 dsimp only at h0 h4 h6 hr
 obtain⟨f,rfl⟩:∃ f,Fu=[f]:=by
  match Fu,hF1 with
  | [f],_=>exact⟨f,rfl⟩
 have hfs:f.s=s:=by simpa using hF1
 have hfl:f.len=t.length:=by simpa [z9j] using hF2
 rcases hr with ⟨hbad,_⟩ | ⟨_,g,h5,ho9⟩
 ·simp at hbad
 have hp0:=hPo 0 f (by simp)
 rw[hfs,hfl] at hp0
 have hp0':P[0]? =some ⟨s,f.dep,t.length⟩:=by simpa [z9j] using hp0
 have e1:decide ((0:Int)≤ -1)=false:=by decide
 have h6':ts 6= .int .i64 (-1):=by rw[h6];rfl
 refine z2e ?_
 simp only[go_sem,q5p,h6',e1,h4,h5,z7z,hB,z0i,decide_true]
 rw[q5u rfl]
 refine hR _ _ ⟨B + 1,by simp[z1l,AV.cv,cvL,AV.ids,idsL],by omega⟩ fun c=> ?_
 have:=fun gP gV g2=>hQ gP gV g2 P f.dep o3 o4 o5 o6 o7 o8 o9 c hPl hp0' (hF4 f (by simp))
 simp only[←hBh,z7z,z0i] at this
 exact this _ _ _
end
section
variable {U:List Var} [UOk U]
theorem WF.nodes {V:List Var} {ss:List Nat} {d:Nat} {t:Term} (h:WF V ss d t):∀ n∈t,∃ ss' s' ks,NodeOk V n ss' s' ks:=by
 induction h with
 | nil=>simp
 | cons h1 h2 h3 h4 ih1 ih2=>
   intro n hn
   rw[List.mem_cons,List.mem_append] at hn
   rcases hn with rfl | hn | hn
   ·exact⟨_,_,_,h2⟩
   ·exact ih1 n hn
   ·exact ih2 n hn
theorem NodeOk.name {V:List Var} {n:Node} {ss:List Nat} {s:Nat} {ks:Term} (hn:NodeOk V n ss s ks):n.op≠5∧(n.op=4→∃ v∈V,n.name=v.name∧n.sort=v.sort):=by
 cases hn with
 | var h=>exact⟨by simp,fun _=>⟨_,h,rfl,rfl⟩⟩
 | bool h=>exact⟨by simp[bare];omega,fun e=>by simp[bare] at e;omega⟩
 | andor h=>exact⟨by simp[bare];omega,fun e=>by simp[bare] at e;omega⟩
 | cmp h hs=>exact⟨by simp[bare];omega,fun e=>by simp[bare] at e;omega⟩
 | div h _ _=>exact⟨by simp;omega,fun e=>by simp at e;omega⟩
 | _=>exact⟨by simp[bare],fun e=>by simp[bare] at e⟩
def q4j (V:List Var) (t:Term):Prop:=∀ n∈t,n.op≠5∧(n.op=4→∃ v∈V,n.name=v.name∧n.sort=v.sort)
theorem WF.names {V:List Var} {ss:List Nat} {d:Nat} {t:Term} (h:WF V ss d t):q4j V t:=fun n hn=>by
 obtain⟨_,_,_,h⟩:=h.nodes n hn
 exact h.name
def z3e:Term→List Var→List Var
 | [],acc=>acc
 | n::t,acc=>if n.op=4∧(⟨n.name,n.sort⟩:Var)∉acc then z3e t (acc++[⟨n.name,n.sort⟩]) else z3e t acc
theorem q0n {V:List Var}:∀ {t:Term} {acc:List Var},q4j V t→(∀ v∈acc,v∈V)→∀ v∈z3e t acc,v∈V
 | [],acc,_,ha,v,hv=>ha v hv
 | n::t,acc,hn,ha,v,hv=>by
   have ht:q4j V t:=fun m hm=>hn m (List.mem_cons_of_mem _ hm)
   simp only[z3e] at hv
   split at hv
   ·rename_i hc
    refine q0n ht (fun w hw=> ?_) v hv
    rw[List.mem_append,List.mem_singleton] at hw
    rcases hw with hw | rfl
    ·exact ha w hw
    ·obtain⟨v',hv',e1,e2⟩:=(hn n List.mem_cons_self).2 hc.1
     rw[e1,e2]
     exact hv'
   ·exact q0n ht ha v hv
theorem x5t {t u:Term} {acc:List Var}:z3e (t++u) acc=z3e u (z3e t acc):=by
 induction t generalizing acc with
 | nil=>rfl
 | cons n t ih=>
   simp only[List.cons_append,z3e]
   split
   ·exact ih
   ·exact ih
theorem q0o:∀ {t:Term} {acc:List Var},(z3e t acc).length≤acc.length + t.length
 | [],acc=>Nat.le_refl _
 | n::t,acc=>by
   simp only[z3e,List.length_cons]
   split
   ·have:=q0o (t:=t) (acc:=acc++[⟨n.name,n.sort⟩])
    simp at this
    omega
   ·have:=q0o (t:=t) (acc:=acc)
    omega
theorem q5v {v w:Var} (hv:v∈U) (hw:w∈U) (h:v.name=w.name):v=w:=UOk.inj v hv w hw h
def q2k (acc:List Var):List (AV×AV):=acc.map fun v=>(.str v.name,z1h v)
theorem q7r {v:Var} (hv:v∈U):∀ {acc:List Var},(∀ w∈acc,w∈U)→findKey (.one .str) (.str v.name) (q2k acc)=some (if v∈acc then some (z1h v) else none)
 | [],_=>rfl
 | w::acc,ha=>by
   have ih:=q7r hv (acc:=acc) fun x hx=>ha x (List.mem_cons_of_mem _ hx)
   unfold q2k at ih⊢
   simp only[List.map_cons,findKey,AV.eqv,AV.eq1]
   by_cases h:v=w
   ·subst h
    simp
   ·have hne:decide (v.name=w.name)=false:=decide_eq_false fun e=>h (q5v hv (ha w List.mem_cons_self) e)
    simp only[hne,ih,List.mem_cons,h,false_or]
theorem x0u {v:Var} (hv:v∈U):∀ {acc:List Var},(∀ w∈acc,w∈U)→v∉acc→z6c (.one .str) (.str v.name) (z1h v) (q2k acc)=some (q2k (acc++[v]))
 | [],_,_=>rfl
 | w::acc,ha,hn=>by
   rw[List.mem_cons,not_or] at hn
   have ih:=x0u hv (acc:=acc) (fun x hx=>ha x (List.mem_cons_of_mem _ hx)) hn.2
   have hne:decide (v.name=w.name)=false:=decide_eq_false fun e=>hn.1 (q5v hv (ha w List.mem_cons_self) e)
   unfold q2k at ih⊢
   simp only[List.map_cons,List.cons_append,z6c,AV.eqv,AV.eq1,hne,ih,Option.map_some]
theorem q3k {h:List AObj} {z:AV} {es:List (AV×AV)} {s:List Nat} {r:Option AV} (hf:findKey (.one .str) (.str s) es=some r):lkV h (.one .str) z true (some es) (.str s)=some (q7w true z r,h):=by
 have:((AV.str s).eqv (.one .str) (.str s)).isSome=true:=by simp[AV.eqv,AV.eq1]
 simp only[lkV,this,if_true,hf,Option.map_some]
theorem w2i {h:List AObj} {z:AV} {es:List (AV×AV)} {s:List Nat} {r:Option AV} (hf:findKey (.one .str) (.str s) es=some r):lkV h (.one .str) z false (some es) (.str s)=some (q7w false z r,h):=by
 have:((AV.str s).eqv (.one .str) (.str s)).isSome=true:=by simp[AV.eqv,AV.eq1]
 simp only[lkV,this,if_true,hf,Option.map_some]
theorem q0p {z v:AV}:q7w true z (some v)= .tup [v, .bool true]:=(rfl)
theorem z7b {z:AV}:q7w true z none= .tup [z, .bool false]:=(rfl)
theorem j2k {z v:AV}:q7w false z (some v)=v:=(rfl)
theorem q1i {z:AV}:q7w false z none=z:=(rfl)
theorem z6n {h:List AObj} {s g:Nat}:x7g h (.mp s g)=z5s h s g:=(rfl)
theorem x3u {D L:List AObj} {B k g:Nat} {es es':List (AV×AV)} {s:List Nat} {v:AV} (hB:D.length=B) (hm:z5s L k g=some es) (ho:v.obs=[]) (hp:z6c (.one .str) (.str s) v.cv es=some es'):muV (D++L) (.one .str) (.str s) v (.mp (B + k) g)=some (.undef,D++L.set k (.map g es')):=by
 have hpub:pub (D++L) v=some (v.cv,D++L):=by simp only[pub,q3y ho,Option.map_some,ho,freezeAll]
 have:((AV.str s).eqv (.one .str) (.str s)).isSome=true:=by simp[AV.eqv,AV.eq1]
 simp only[muV,x5a hB,hm,hpub,this,if_true,hp,Option.map_some,z1t hB]
end
section
variable {U:List Var} [UOk U]
def q6p (gV:Nat) (t:Term) (sP gP:Nat):AObj:= .blk gV [.agg [z0i t, .ob sP gP 0 t.length]] false false 0
def j5j (gP:Nat) (P:List Pt):AObj:= .blk gP (P.map ePt) true false 0
def x2a (s sP gV gP:Nat) (t:Term) (P:List Pt):List (Nat×AObj):=[(s,q6p gV t sP gP),(sP,j5j gP P)]
theorem j5k {s sP gV gP:Nat} {t:Term} {P:List Pt}:Cov (x2a s sP gV gP t P) [s]:=by
 refine Cov.two ?_ ?_
 ·simp[q6p,AObj.ids,idsL,AV.ids,z1f]
 ·simp[j5j,AObj.ids,z0b (f:=ePt) fun _=>rfl]
theorem j5l {s sP gV gP:Nat} {t:Term} {P:List Pt} {p:Pt} (hl:t.length≤20000) (hP:P[0]? =some p) (hd:p.depth≤257) (hPl:P.length=t.length):Reads (x2a s sP gV gP t P) 128 [.ptr s gV 0 0] (.bool false):=by
 refine Reads.of rfl u4h rfl rfl rfl rfl j5k fun D B clk T hB hS hlt hT=> ?_
 have h1:=hlt (s,q6p gV t sP gP) (by simp[x2a])
 have h2:=hlt (sP,j5j gP P) (by simp[x2a])
 have b1:=z2g (g:=gV) (hS (s,q6p gV t sP gP) (by simp[x2a]))
 have b2:=z2g (g:=gP) (hS (sP,j5j gP P) (by simp[x2a]))
 dsimp only at h1 h2 b1 b2
 have hpos:0 < t.length:=by
  rw[←hPl]
  rw[List.getElem?_eq_some_iff] at hP
  exact hP.1
 have hg:(P.map ePt)[0]? =some (.agg [.int .i64 (p.sort:Int), .int .i64 (p.depth:Int), .int .i64 (p.fin:Int)]):=x5s hP
 have hix:∀ L,z1n (D++L) 3 (.ob sP gP 0 t.length) (.int .i64 0)=some (.ptr sP gP 0 0,D++L):=fun L=>by
  have:z1s (D++L) sP gP=some (P.map ePt,true,false,0):=by rw[z3p hB h2,b2]
  simp only[z1n,Int.le_refl,if_true,this,Int.toNat_zero,Nat.add_zero,hg]
  rw[if_pos ⟨hpos,rfl⟩]
 have e1:decide ((20000:Int) < (t.length:Int))=false:=by rw[decide_eq_false_iff_not];omega
 have e2:decide ((257:Int) < (p.depth:Int))=false:=by rw[decide_eq_false_iff_not];omega
 simp only[go_sem,y3c,z3p hB h1,b1,z3p hB h2,b2,z0i,List.length_map,e1,hix,hg,e2]
 rw[z0d]
 exact hT _ hS.app
theorem q8j {s sP gV gP:Nat} {t:Term} {P:List Pt} {V:List Var} (hl:t.length≤20000) (hn:q4j V t) (hV:∀ v∈V,v∈U):Reads (x2a s sP gV gP t P) 127 [.ptr s gV 0 0] (.tup [.sl ((z3e t []).map z1h) .no, .sl [] .no, .bool true]):=by
 refine Reads.of rfl u4f rfl rfl rfl rfl j5k fun D B clk T hB hS hlt hT=> ?_
 have h1:=hlt (s,q6p gV t sP gP) (by simp[x2a])
 have b1:=z2g (g:=gV) (hS (s,q6p gV t sP gP) (by simp[x2a]))
 dsimp only at h1 b1
 simp only[go_sem,y3a,hB,z3p hB h1,b1,z0i,List.length_map]
 refine z1q (fun m q=>∃ (i:Nat) (u:Tip) (g0 g1:Nat) (o2 o3 o4 o5 o6 o7 o8 o9 o10 o11:AObj),i≤t.length∧m=t.length - i∧q.ts 5= .mp (B + 0) g0∧q.ts 6= .mp (B + 1) g1∧q.ts 7= .sl ((z3e (t.take i) []).map z1h) u∧q.ts 8= .sl [] .nil∧q.ts 25= .sl (t.map eNode) .no∧q.ts 26= .int .i64 (t.length:Int)∧q.ts 27= .int .i64 (i:Int)∧q.h=D++[.map g0 (q2k (z3e (t.take i) [])), .map g1 [],o2,o3,o4,o5,o6,o7,o8,o9,o10,o11]∧z7x B 5 o5 u 2) t.length ⟨0, .nil,_,_,_,_,_,_,_,_,_,_,_,_,by omega,rfl,rfl,rfl,rfl,rfl,rfl,rfl,rfl,rfl, .inl rfl⟩ ?_
 rintro m ⟨ts,h,clk⟩ Pq ⟨i,u,g0,g1,o2,o3,o4,o5,o6,o7,o8,o9,o10,o11,hi,rfl,q5,q6,q7,q8,q25,q26,q27,rfl,hu⟩ hnx he hr
 dsimp only at q5 q6 q7 q8 q25 q26 q27
 have hacc:∀ v∈z3e (t.take i) [],v∈V:=q0n (fun n hn'=>hn n (List.mem_of_mem_take hn')) (by simp)
 by_cases hlt':i < t.length
 ·have e1:decide ((i:Int) < (t.length:Int))=true:=by rw[decide_eq_true_iff];omega
  have e2:IntKind.i64.wrap ((i:Int) + 1)=((i + 1:Nat):Int):=z0f (by omega) (by omega)
  have hti:t[i]? =some t[i]:=by simp[hlt']
  obtain⟨hn5,hn4⟩:=hn _ (List.getElem_mem hlt')
  have htake:t.take (i + 1)=t.take i++[t[i]]:=List.take_succ_eq_append_getElem hlt'
  generalize t[i]=n at hti hn5 hn4 htake
  have hvo:z3e (t.take (i + 1)) []=if n.op=4∧(⟨n.name,n.sort⟩:Var)∉z3e (t.take i) [] then z3e (t.take i) []++[⟨n.name,n.sort⟩] else z3e (t.take i) []:=by
   rw[htake,x5t]
   simp only[z3e]
  by_cases h4:n.op=4
  ·obtain⟨v,hv,e3,e4⟩:=hn4 h4
   have hfk:=q7r (hV v hv) (acc:=z3e (t.take i) []) fun w hw=>hV w (hacc w hw)
   have hf0:findKey (.one .str) (.str v.name) []=some none:=rfl
   have f4:decide ((n.op:Int)=4)=true:=by rw[decide_eq_true_iff];omega
   have hve:(⟨n.name,n.sort⟩:Var)=v:=by rw[e3,e4]
   rw[hve] at hvo
   by_cases hin:v∈z3e (t.take i) []
   ·rw[if_pos hin] at hfk
    rw[if_neg (fun hc=>hc.2 hin)] at hvo
    simp only[go_sem,x3n,q5,q6,q7,q8,q25,q26,q27,hB,e1,z2p hti,f4,e3,e4,z6n,q3k hfk,q3k hf0,q0p,z7b,z1h,nat,Bool.not_true,decide_true,e2]
    rw[←hvo] at q7⊢
    exact hnx (t.length - (i + 1)) _ (by omega) ⟨i + 1,u,g0,g1,_,_,_,_,_,_,_,_,_,_,hlt',rfl,q5,q6,q7,q8,q25,q26,rfl,rfl,hu⟩
   ·rw[if_neg hin] at hfk
    rw[if_pos ⟨h4,hin⟩] at hvo
    have hput:=x0u (hV v hv) (acc:=z3e (t.take i) []) (fun w hw=>hV w (hacc w hw)) hin
    have hmu:∀ L:List AObj,z5s L 0 g0=some (q2k (z3e (t.take i) []))→muV (D++L) (.one .str) (.str v.name) (.agg [.str v.name, .int .i64 (v.sort:Int)]) (.mp (B + 0) g0)=some (.undef,D++L.set 0 (.map g0 (q2k (z3e (t.take i) []++[v])))):=fun L hL=>x3u (v:=z1h v) hB hL rfl hput
    have hlen:(z3e (t.take i) []).length≤20000:=by
     have:=q0o (t:=t.take i) (acc:=[])
     rw[List.length_take] at this
     simp only[List.length_nil] at this
     omega
    simp only[go_sem,x3n,q5,q6,q7,q8,q25,q26,q27,hB,e1,z2p hti,f4,e3,e4,z6n,q3k hfk,z7b,Bool.not_false,hmu]
    have e8:(z3e (t.take i) []).map z1h++[AV.agg [AV.str v.name,AV.int .i64 (v.sort:Int)]]=(z3e (t.take (i + 1)) []).map z1h:=by rw[hvo,List.map_append];rfl
    rw[show [AV.agg [AV.str v.name,AV.int .i64 (v.sort:Int)]]=[v].map z1h from rfl,z0k hB rfl hu z3d z3d (by simp only[List.length_map,List.length_singleton];omega)]
    simp only[go_sem,q5,q6,q7,q8,q25,q26,q27,hB,z6n,q3k hf0,z7b,decide_true,Bool.not_true,e2,z1h,nat,e8,←hvo]
    exact hnx (t.length - (i + 1)) _ (by omega) ⟨i + 1,_,g0,g1,_,_,_,_,_,_,_,_,_,_,hlt',rfl,q5,q6,rfl,q8,q25,q26,rfl,rfl, .inr (.inr ⟨_,rfl,rfl⟩)⟩
  ·rw[if_neg (fun hc=>h4 hc.1)] at hvo
   have f4:decide ((n.op:Int)=4)=false:=by rw[decide_eq_false_iff_not];omega
   have f5:decide ((n.op:Int)=5)=false:=by rw[decide_eq_false_iff_not];omega
   simp only[go_sem,x3n,q5,q6,q7,q8,q25,q26,q27,hB,e1,z2p hti,f4,f5,e2]
   rw[←hvo] at q7⊢
   exact hnx (t.length - (i + 1)) _ (by omega) ⟨i + 1,u,g0,g1,_,_,_,_,_,_,_,_,_,_,hlt',rfl,q5,q6,q7,q8,q25,q26,rfl,rfl,hu⟩
 ·have e1:decide ((i:Int) < (t.length:Int))=false:=by rw[decide_eq_false_iff_not];omega
  have hti:t.take i=t:=List.take_of_length_le (by omega)
  rw[hti] at q7
  simp only[go_sem,x3n,q5,q6,q7,q8,q25,q26,q27,hB,e1]
  refine he _ _ ?_
  simp only[go_sem,q7,q8]
  rw[z0j rfl (by simp[z1l,AV.cv,cvL,AV.ids,idsL,z0b (f:=z1h) fun _=>rfl])]
  exact hT _ hS.app
end
section
variable {U:List Var} [UOk U]
theorem q8k {D:List AObj} {B:Nat} {t:Term} {gP gV g2:Nat} {P:List Pt} {o3 o4 o5 o6 o7 o8 o9:AObj} (hB:D.length=B):Has (x2a (B + 1) (B + 0) gV gP t P) (z7z D B t gP gV g2 P o3 o4 o5 o6 o7 o8 o9):=by
 refine Has.cons ?_ (Has.cons ?_ Has.nil)
 ·simp only[z7z,z2v hB];rfl
 ·simp only[z7z,z2v hB];rfl
theorem WF.pos {V:List Var} {s d:Nat} {t:Term} (h:WF V [s] d t):0 < t.length:=by
 cases h with
 | cons=>simp
theorem k9m {V:List Var} {s d:Nat} {t:Term} {u:Tip} {h:List AObj} {clk:Nat} {Q:AV→List AObj→Nat→Prop} (ht:WF V [s] d t) (hV:∀ v∈V,v∈U) (hl:t.length≤20000) (hd:d≤257)
  (hQ:∀ gP gV g2 P dep o3 o4 o5 o6 o7 o8 o9 c,P.length=t.length→P[0]? =some ⟨s,dep,t.length⟩→dep≤d→Q (.tup [.ptr (h.length + 1) gV 0 0, .bool true]) (z7z h h.length t gP gV g2 P o3 o4 o5 o6 o7 o8 o9) c):WC Gam 174 [.sl (t.map eNode) u] h clk Q:=by
 refine x0t rfl u4e rfl rfl rfl (az:=[.sl (t.map eNode) .no]) rfl (by simp[idsL,AV.ids,z0b z0x]) fun D B R hB hBh hR=> ?_
 have hpos:=ht.pos
 have e1:decide ((t.length:Int)=0)=false:=by rw[decide_eq_false_iff_not];omega
 have e2:decide ((20000:Int) < (t.length:Int))=false:=by rw[decide_eq_false_iff_not];omega
 simp only[go_sem,y2z,hB,List.length_map,e1,e2,List.append_nil]
 refine z3g (y4j ht hV hl (by omega) fun gP gV g2 P dep o3 o4 o5 o6 o7 o8 o9 c hPl hp hdep=> ?_)
 rw[hB]
 have r1:=j5l (s:=B + 1) (sP:=B + 0) (gV:=gV) (gP:=gP) hl hp (by dsimp only;omega) hPl
 have r2:=q8j (s:=B + 1) (sP:=B + 0) (gV:=gV) (gP:=gP) (P:=P) hl ht.names hV
 have hh:=q8k (t:=t) (gP:=gP) (gV:=gV) (g2:=g2) (P:=P) (o3:=o3) (o4:=o4) (o5:=o5) (o6:=o6) (o7:=o7) (o8:=o8) (o9:=o9) hB
 simp only[go_sem,Bool.not_true,z1m r1 hh,z1m r2 hh]
 rw[q5u rfl]
 have:=fun gP gV g2 c=>hQ gP gV g2 P dep o3 o4 o5 o6 o7 o8 o9 c hPl hp hdep
 simp only[←hBh] at this
 exact hR _ _ ⟨B + 1,by simp[z1l,AV.cv,cvL,AV.ids,idsL],by omega⟩ fun c=>this _ _ _ c
theorem x5u {V:List Var} {s d:Nat} {t:Term} {u:Tip} (ht:WF V [s] d t) (hV:∀ v∈V,v∈U) (hl:t.length≤20000) (hd:d≤257):Pure Gam 106 [.sl (t.map eNode) u] (nat s):=by
 refine Pure.of rfl u4b rfl rfl rfl (az:=[.sl (t.map eNode) .no]) rfl (by simp[idsL,AV.ids,z0b z0x]) fun D B clk T hB hT=> ?_
 simp only[go_sem,y2w,List.append_nil]
 refine z3g (k9m ht hV hl hd fun gP gV g2 P dep o3 o4 o5 o6 o7 o8 o9 c hPl hp hdep=> ?_)
 rw[hB]
 have hix:∀ L,z1n (D++ .blk gP (P.map ePt) true false 0::L) 3 (.ob (B + 0) gP 0 t.length) (.int .i64 0)=some (.ptr (B + 0) gP 0 0,D++ .blk gP (P.map ePt) true false 0::L):=fun L=>q8i (i:=0) hB hp hPl
 simp only[go_sem,Bool.not_true,z7z,hB,hix,x5s hp]
 rw[z2r]
 exact hT _
theorem j2l {V:List Var} {s d:Nat} {t:Term} {u:Tip} (ht:WF V [s] d t) (hV:∀ v∈V,v∈U) (hl:t.length≤20000) (hd:d≤257):Pure Gam 107 [.sl (t.map eNode) u] (.sl [] .no):=by
 refine Pure.of rfl u4c rfl rfl rfl (az:=[.sl (t.map eNode) .no]) rfl (by simp[idsL,AV.ids,z0b z0x]) fun D B clk T hB hT=> ?_
 simp only[go_sem,y2x,List.append_nil]
 refine z3g (k9m ht hV hl hd fun gP gV g2 P dep o3 o4 o5 o6 o7 o8 o9 c hPl hp hdep=> ?_)
 rw[hB]
 have r2:=q8j (s:=B + 1) (sP:=B + 0) (gV:=gV) (gP:=gP) (P:=P) hl ht.names hV
 have hh:=q8k (t:=t) (gP:=gP) (gV:=gV) (g2:=g2) (P:=P) (o3:=o3) (o4:=o4) (o5:=o5) (o6:=o6) (o7:=o7) (o8:=o8) (o9:=o9) hB
 simp only[go_sem,Bool.not_true,z1m r2 hh]
 rw[z0j rfl rfl]
 exact hT _
theorem k3r {V:List Var} {s d:Nat} {t:Term} {u:Tip} (ht:WF V [s] d t) (hV:∀ v∈V,v∈U) (hl:t.length≤20000) (hd:d≤257):Pure Gam 109 [.sl (t.map eNode) u] (.sl ((z3e t []).map z1h) .no):=by
 refine Pure.of rfl u4d rfl rfl rfl (az:=[.sl (t.map eNode) .no]) rfl (by simp[idsL,AV.ids,z0b z0x]) fun D B clk T hB hT=> ?_
 simp only[go_sem,y2y,List.append_nil]
 refine z3g (k9m ht hV hl hd fun gP gV g2 P dep o3 o4 o5 o6 o7 o8 o9 c hPl hp hdep=> ?_)
 rw[hB]
 have r2:=q8j (s:=B + 1) (sP:=B + 0) (gV:=gV) (gP:=gP) (P:=P) hl ht.names hV
 have hh:=q8k (t:=t) (gP:=gP) (gV:=gV) (g2:=g2) (P:=P) (o3:=o3) (o4:=o4) (o5:=o5) (o6:=o6) (o7:=o7) (o8:=o8) (o9:=o9) hB
 simp only[go_sem,Bool.not_true,z1m r2 hh]
 rw[z2q rfl (by simp[AV.cv,AV.ids,z0b (f:=z1h) fun _=>rfl])]
 exact hT _
end
end Go.Proofs.YtdfepmffiampgaaGreatDoor.Am
