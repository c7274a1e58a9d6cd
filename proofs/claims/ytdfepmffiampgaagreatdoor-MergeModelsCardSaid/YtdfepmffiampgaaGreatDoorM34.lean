/- Walking: the reference's tests of numbers and of the fields of nodes Walking: the reference reads a term as a tree Walking: the reference asks whether names are used in one way Walking: the reference' -/
import Derived.Test.YtdfepmffiampgaaGreatDoorM33
set_option linter.all false
namespace Go.Proofs.YtdfepmffiampgaaGreatDoor.Am
open Go
set_option maxRecDepth 100000
section
variable {U:List Var} [UOk U]
theorem q1j {z:Int} (h:z.natAbs < 10 ^ 40):(dec z.natAbs).length≤10000000:=by
 have:=q0k (a:=z.natAbs) (b:=10 ^ 40) (by omega)
 have h2:(dec (10 ^ 40)).length=41:=by kernel_rfl
 omega
theorem k3x {a:List Nat} (h:IntS a):Pure Gam 95 [.str a] (.bool true):=by
 obtain⟨z,rfl,hz⟩:=h
 have hp:=q4g (q1j hz)
 rw[x1s,z4g] at hp
 refine Pure.of rfl u2f rfl rfl rfl rfl rfl fun D B clk T hB hT=> ?_
 simp only[go_sem,y0j,hB,z0a hp,decide_true]
 rw[z0d]
 exact hT _
theorem w2p {a:List Nat} (h:RatS a):Pure Gam 159 [.str a] (.bool true):=by
 rcases h with ⟨z,rfl,hz⟩ | ⟨z,d,rfl,hz,h2,h4,hg⟩
 ·have hp:=q4g (q1j hz)
  rw[x1s] at hp
  refine Pure.of rfl y0i rfl rfl rfl rfl rfl fun D B clk T hB hT=> ?_
  simp only[go_sem,v9s,hB,z0a hp]
  rw[z0d]
  exact hT _
 ·have hp:=k9t (q1j hz) h2 (by rw[z9r (by omega)];simp) hg
  rw[x1s] at hp
  refine Pure.of rfl y0i rfl rfl rfl rfl rfl fun D B clk T hB hT=> ?_
  simp only[go_sem,v9s,hB,z0a hp]
  rw[z0d]
  exact hT _
theorem w2q {k:Nat} (h1:1≤k) (h5:k≤5):Pure Gam 161 [.str (dec k)] (.int .i64 1):=by
 have e:z3k (k:Int)=dec k:=by rw[z3k,if_neg (by omega),Int.natAbs_natCast]
 have hp:=q4g (z:=(k:Int)) (q1j (by simp;omega))
 rw[x1s,z4g,e,Int.natAbs_natCast,show decide ((k:Int) < 0)=false by simp] at hp
 have e1:decide (dec k=[48])=false:=by rw[decide_eq_false_iff_not,q4c];omega
 refine Pure.of rfl u1w rfl rfl rfl rfl rfl fun D B clk T hB hT=> ?_
 simp only[go_sem,y0d,hB,z0a hp,e1,Bool.not_true]
 rw[z0j rfl rfl]
 exact hT _
theorem k3y {v:Var} (hv:v∈U):Pure Gam 77 [.str v.name] (.bool true):=Pure.tab (tab:=q1v) rfl rfl (UOk.name2 v hv)
theorem w2r {V:List Var} {n:Node} {ss:List Nat} {s:Nat} {ks:Term} (hV:∀ v∈V,v∈U) (hn:NodeOk V n ss s ks):Pure Gam 237 [eNode n] (.bool true):=by
 refine Pure.of rfl u1x rfl rfl rfl rfl rfl fun D B clk T hB hT=> ?_
 cases hn with
 | bool h=>rcases h with rfl | rfl <;> (simp only[go_sem,x4z,hB,eNode,nat,bare,Int.cast_ofNat_Int,Int.reduceEq,Int.reduceLE,decide_true,decide_false];rw[z0d];exact hT _)
 | int h=>simp only[go_sem,x4z,hB,eNode,nat,Int.cast_ofNat_Int,Int.reduceEq,decide_true,decide_false,z0a (k3x h)];rw[z0d];exact hT _
 | real h=>simp only[go_sem,x4z,hB,eNode,nat,Int.cast_ofNat_Int,Int.reduceEq,decide_true,decide_false,z0a (w2p h)];rw[z0d];exact hT _
 | @var v ks h=>
   have hs:=q5r (hV _ h)
   have p:=j2n hs.1 hs.2
   rw[nat] at p
   simp only[go_sem,x4z,hB,eNode,nat,Int.cast_ofNat_Int,Int.reduceEq,decide_true,decide_false,z0a (k3y (hV _ h)),z0a p];rw[z0d];exact hT _
 | andor h=>rcases h with rfl | rfl <;> (simp only[go_sem,x4z,hB,eNode,nat,bare,Int.cast_ofNat_Int,Int.reduceEq,Int.reduceLE,decide_true,decide_false];rw[z0d];exact hT _)
 | cmp h hs=>rcases h with rfl | rfl <;> (simp only[go_sem,x4z,hB,eNode,nat,bare,Int.cast_ofNat_Int,Int.reduceEq,Int.reduceLE,decide_true,decide_false];rw[z0d];exact hT _)
 | @div o k ks h h1 h5=>
   have e:IntS (dec k):=⟨k,by rw[z3k,if_neg (by omega),Int.natAbs_natCast],by simp;omega⟩
   rcases h with rfl | rfl <;> (simp only[go_sem,x4z,hB,eNode,nat,Int.cast_ofNat_Int,Int.reduceEq,Int.reduceLT,decide_true,decide_false,z0a (k3x e),z0a (w2q h1 h5)];rw[z0d];exact hT _)
 | _=>simp only[go_sem,x4z,hB,eNode,nat,bare,Int.cast_ofNat_Int,Int.reduceEq,Int.reduceLE,decide_true,decide_false];rw[z0d];exact hT _
end
section
variable {U:List Var} [UOk U]
theorem WF.len {V:List Var} {ss:List Nat} {d:Nat} {f:Term} (h:WF V ss d f):ss.length≤f.length:=by
 induction h with
 | nil=>simp
 | cons h1 h2 h3 h4 ih1 ih2=>simp at *;omega
theorem NodeOk.mul_ne {V:List Var} {n:Node} {ss:List Nat} {s:Nat} {ks:Term} (hn:NodeOk V n ss s ks) (h:n.op=15):ss≠[]:=by
 cases hn with
 | mul=>simp
 | bool ho=>simp only[bare] at h;omega
 | andor ho=>simp only[bare] at h;omega
 | cmp ho=>simp only[bare] at h;omega
 | div ho=>dsimp only at h;omega
 | _=>simp[bare] at h
inductive Trees (t:Term) (dep:Nat):Nat→List Nat→Nat→Prop
 | nil {i:Nat}:Trees t dep i [] i
 | cons {i m j s:Nat} {ss:List Nat} (h:Pure Gam 195 [.sl (t.map eNode) .no,nat i,nat dep] (.tup [nat m,nat s])) (hs:1≤s) (hm:m≤t.length) (hr:Trees t dep m ss j):Trees t dep i (s::ss) j
theorem z5h {t:Term}:(AV.sl (t.map eNode) .no).ids=[]:=by simp[AV.ids,z0b z0x]
theorem k3z {V:List Var} {t:Term} {i dep m s:Nat} {n:Node} {ss:List Nat} {ks:Term} (hV:∀ v∈V,v∈U) (htl:t.length≤20000) (hd:dep≤256) (hi:t[i]? =some n) (hn:NodeOk V n ss s ks) (hk:n.kids=ss.length) (hsl:ss.length < t.length) (hm:m≤t.length) (hT:Trees t (dep + 1) (i + 1) ss m)
  (hf:ss≠[]→∃ c,t[i + 1]? =some c∧(n.op=15→c.op=3)):Pure Gam 195 [.sl (t.map eNode) .no,nat i,nat dep] (.tup [nat m,nat s]):=by
 have hit:i < t.length:=(List.getElem?_eq_some_iff.1 hi).1
 refine Pure.of rfl u1v rfl rfl rfl (az:=[.sl (t.map eNode) .no,nat i,nat dep]) rfl (by simp[idsL,z5h,z3q]) fun D B clk T hB hR=> ?_
 have p1:=w2r hV hn
 have p2:=w2n hn hk
 simp only[eNode,nat] at p1 p2
 have e1:decide ((t.length:Int)≤(i:Int))=false:=by rw[decide_eq_false_iff_not];omega
 have e2:decide ((256:Int) < (dep:Int))=false:=by rw[decide_eq_false_iff_not];omega
 have e3:decide ((t.length:Int) < (n.kids:Int))=false:=by rw[decide_eq_false_iff_not];omega
 have e4:IntKind.i64.wrap ((i:Int) + 1)=((i + 1:Nat):Int):=z0f (by omega) (by omega)
 simp only[go_sem,y0a,nat,hB,List.length_map,e1,e2,e3,e4,z2p hi,z0a p1,z0a p2,Bool.not_true]
 refine z1q (fun r q=>∃ (done left:List Nat) (t8:Tip) (e g0:Nat) (o0 o1:AObj),ss=done++left∧r=left.length∧Trees t (dep + 1) e left m∧e≤t.length∧(∀ x∈done,1≤x)∧q.ts 0= .sl (t.map eNode) .no∧q.ts 1= .int .i64 (i:Int)∧q.ts 2= .int .i64 (dep:Int)∧q.ts 8= .sl (done.map nat) t8∧q.ts 9= .int .i64 (e:Int)∧q.ts 10= .bool true∧q.ts 11= .int .i64 (done.length:Int)∧q.h=D++[o0,o1]∧z7x B 1 o1 t8 1) ss.length ⟨[],ss, .nil,i + 1,0,_,_,rfl,rfl,hT,hit,by simp,rfl,rfl,rfl,rfl,rfl,rfl,rfl,rfl, .inl rfl⟩ ?_
 rintro r ⟨ts,h,clk⟩ P ⟨done,left,t8,e,g0,o0,o1,hss,rfl,hT,he',hdone,q0,q1,q2,q8,q9,q10,q11,rfl,htip⟩ hnx he hr
 dsimp only at q0 q1 q2 q8 q9 q10 q11
 cases hT with
 | nil=>
   obtain rfl:done=ss:=by simpa using hss.symm
   have f1:decide ((done.length:Int) < (n.kids:Int))=false:=by rw[decide_eq_false_iff_not];omega
   simp only[go_sem,j4b,q0,q1,q2,q8,q9,q10,q11,f1,z2p hi]
   refine he _ _ ?_
   have p3:∀ fi:Nat,(n.op=15→fi=3)→Pure Gam 239 [eNode n,nat fi, .sl (done.map nat) t8] (nat s):=fun fi h=>w2o hn (by omega) h
   cases hd0:done with
   | nil=>
     have p4:Pure Gam 239 [eNode n, .int .i64 0, .sl (done.map nat) t8] (nat s):=p3 0 fun h15=>absurd hd0 (hn.mul_ne h15)
     rw[hd0] at p4 q8
     simp only[eNode,nat,List.map_nil] at p4 q8
     simp only[go_sem,q0,q1,q2,q8,q9,q10,Bool.not_true,z2p hi,z0a p4,decide_false,Int.reduceLT]
     rw[z0j rfl rfl]
     exact hR _
   | cons x0 d0=>
     obtain⟨c,hc,hc3⟩:=hf (by rw[hd0];simp)
     have p4:=p3 c.op hc3
     have g1:decide ((0:Int) < (done.length:Int))=true:=by rw[decide_eq_true_iff,hd0];simp
     simp only[eNode,nat] at p4
     simp only[go_sem,q0,q1,q2,q8,q9,q10,Bool.not_true,List.length_map,g1,e4,z2p hi,z2p hc,z0a p4]
     rw[z0j rfl rfl]
     exact hR _
 | cons hp hs hm' hr'=>
   rename_i m' x left
   have f1:decide ((done.length:Int) < (n.kids:Int))=true:=by rw[decide_eq_true_iff,hk,hss];simp;omega
   have f2:IntKind.i64.wrap ((dep:Int) + 1)=((dep + 1:Nat):Int):=z0f (by omega) (by omega)
   have f3:decide ((m':Int) < 0)=false:=by rw[decide_eq_false_iff_not];omega
   have f4:decide ((0:Int) < (x:Int))=true:=by rw[decide_eq_true_iff];omega
   have f5:IntKind.i64.wrap ((done.length:Int) + 1)=((done.length + 1:Nat):Int):=z0f (by omega) (by rw[hss] at hsl;simp at hsl;omega)
   simp only[nat] at hp
   simp only[go_sem,j4b,q0,q1,q2,q8,q9,q10,q11,f1,f2,f3,f4,f5,z2p hi,z0a hp]
   have happ:done.map nat++[nat x]=(done++[x]).map nat:=by simp
   rw[show [AV.int .i64 (x:Int)]=[x].map nat from rfl,z0k hB rfl htip z4i z4i (by rw[hss] at hsl;simp at hsl⊢;omega)]
   simp only[go_sem,q0,q1,q2,q8,q9,q10,q11,f5,happ]
   refine hnx left.length _ (by simp) ⟨done++[x],left,_,m',0,_,_,by simp[hss],rfl,hr',hm',fun y hy=> ?_,q0,q1,q2,rfl,rfl,rfl,by rw[List.length_append];rfl,rfl, .inr (.inr ⟨_,rfl,rfl⟩)⟩
   rcases List.mem_append.1 hy with hy | hy
   ·exact hdone y hy
   ·rw[List.mem_singleton.1 hy];exact hs
theorem w2s {V:List Var} {t:Term} (hV:∀ v∈V,v∈U) (htl:t.length≤20000) {ss:List Nat} {d:Nat} {f:Term} (h:WF V ss d f):∀ {pre post:Term} {dep:Nat},t=pre++f++post→dep + d≤256→Trees t dep pre.length ss (pre.length + f.length):=by
 induction h with
 | nil=>intro pre post dep ht hd;exact .nil
 | @cons n ss ks s d ss' rest h1 h2 h3 h4 ih1 ih2=>
   intro pre post dep ht hd
   have hl:pre.length + (1 + ks.length + rest.length)≤t.length:=by rw[ht];simp;omega
   have i1:=ih1 (pre:=pre++[n]) (post:=rest++post) (dep:=dep + 1) (by rw[ht];simp) (by omega)
   have i2:=ih2 (pre:=pre++(n::ks)) (post:=post) (dep:=dep) (by rw[ht];simp) (by omega)
   simp only[List.length_append,List.length_cons,List.length_nil,Nat.zero_add] at i1 i2
   have hw:=h1.len
   have hit:t[pre.length]? =some n:=by rw[ht];simp
   refine .cons (m:=pre.length + (ks.length + 1)) (k3z (ks:=ks) hV htl (by omega) hit h2 h3 (by omega) (by omega) (by rw[show pre.length + (ks.length + 1)=pre.length + 1 + ks.length by omega];exact i1) fun hne=> ?_) (h2.pos hV).1 (by omega) ?_
   ·cases ks with
    | nil=>simp at hw;exact absurd hw hne
    | cons c r=>
      refine⟨c,by rw[ht];simp,fun h15=> ?_⟩
      obtain⟨m,r',he,hm⟩:=h2.mul_num h15
      injection he with he1 he2
      rw[he1]
      exact hm
   ·simp only[List.length_cons,List.length_append]
    rw[show pre.length + (ks.length + rest.length + 1)=pre.length + (ks.length + 1) + rest.length by omega]
    exact i2
theorem w2t {V:List Var} {t:Term} {s d:Nat} (hV:∀ v∈V,v∈U) (htl:t.length≤20000) (hd:d≤256) (h:WF V [s] d t):Pure Gam 195 [.sl (t.map eNode) .no, .int .i64 0, .int .i64 0] (.tup [nat t.length,nat s]):=by
 have:=w2s hV htl h (pre:=[]) (post:=[]) (dep:=0) (by simp) (by omega)
 cases this with
 | cons hp hs hm hr=>
   cases hr with
   | nil=>
     rw[List.length_nil,Nat.zero_add] at hp
     exact hp
end
section
variable {U:List Var} [UOk U]
theorem u5m:∀ v∈U,∀ w∈U,v.name=w.name→v=w:=UOk.inj
theorem u5n {B clk i:Nat} {H:List AObj} {t:Term} {n:Node} {acc:List Var} {t3:Tip} {ts:Tmps} {ks:List Kf} {Q:Post} (hi:t[i]? =some n) (hl:acc.length≤20000) (hs:∀ v∈acc,v.name=n.name→v.sort=n.sort)
  (h0:ts 0= .sl (t.map eNode) .no) (h3:ts 3= .sl (acc.map z1h) t3) (h4:ts 4= .sl [] .nil) (h5:ts 5= .int .i64 (i:Int)) (h6:ts 6= .bool false) (h7:ts 7= .int .i64 0)
  (hQ:∀ (ts':Tmps) (clk':Nat),ts' 0= .sl (t.map eNode) .no→ts' 3= .sl (acc.map z1h) t3→ts' 4= .sl [] .nil→ts' 5= .int .i64 (i:Int)→ts' 6= .bool (acc.any fun v=>decide (v.name=n.name))→K Gam B (.exit 3) ks ⟨ts',H,clk'⟩ Q):K Gam B (.loop x0c) ks ⟨ts,H,clk⟩ Q:=by
 refine z1q (fun m q=>∃ j:Nat,j≤acc.length∧m=acc.length - j∧q.ts 0= .sl (t.map eNode) .no∧q.ts 3= .sl (acc.map z1h) t3∧q.ts 4= .sl [] .nil∧q.ts 5= .int .i64 (i:Int)∧q.ts 6= .bool ((acc.take j).any fun v=>decide (v.name=n.name))∧q.ts 7= .int .i64 (j:Int)∧q.h=H) acc.length ⟨0,by omega,rfl,h0,h3,h4,h5,h6,h7,rfl⟩ ?_
 clear h0 h3 h4 h5 h6 h7
 rintro m ⟨ts,h,clk⟩ P ⟨j,hj,rfl,h0,h3,h4,h5,h6,h7,rfl⟩ hnx he hr
 dsimp only at h0 h3 h4 h5 h6 h7
 by_cases hlt:j < acc.length
 ·have e1:decide ((j:Int) < (acc.length:Int))=true:=by rw[decide_eq_true_iff];omega
  have e4:IntKind.i64.wrap ((j:Int) + 1)=((j + 1:Nat):Int):=z0f (by omega) (by omega)
  have ht:acc.take (j + 1)=acc.take j++[acc[j]]:=List.take_succ_eq_append_getElem hlt
  have hsj:=hs acc[j] (List.getElem_mem hlt)
  by_cases hnm:acc[j].name=n.name
  ·have e2:decide (acc[j].name=n.name)=true:=by simp[hnm]
   have e3:decide (((acc[j].sort:Nat):Int)=((n.sort:Nat):Int))=true:=by rw[decide_eq_true_iff,hsj hnm]
   simp only[go_sem,h0,h3,h4,h5,h6,h7,x0c,nat,List.length_map,e1,e2,e3,z9a hlt,z2p hi,e4,Bool.not_true]
   exact hnx (acc.length - (j + 1)) _ (by omega) ⟨j + 1,hlt,rfl,h0,h3,h4,h5,by rw[ht,List.any_append];simp[z0c,hnm],rfl,rfl⟩
  ·have e2:decide (acc[j].name=n.name)=false:=by simp[hnm]
   simp only[go_sem,h0,h3,h4,h5,h6,h7,x0c,nat,List.length_map,e1,e2,z9a hlt,z2p hi,e4]
   exact hnx (acc.length - (j + 1)) _ (by omega) ⟨j + 1,hlt,rfl,h0,h3,h4,h5,by rw[ht,List.any_append];simp[z0c,hnm,h6],rfl,rfl⟩
 ·have e1:decide ((j:Int) < (acc.length:Int))=false:=by rw[decide_eq_false_iff_not];omega
  rw[List.take_of_length_le (by omega)] at h6
  simp only[go_sem,h0,h3,h4,h5,h6,h7,x0c,List.length_map,e1]
  refine he _ _ ?_
  exact hQ _ _ (by simp[z0c,h0]) (by simp[z0c,h3]) (by simp[z0c,h4]) (by simp[z0c,h5]) (by simp[z0c,h6])
theorem k4a {V:List Var} {t:Term} (hV:∀ v∈V,v∈U) (htl:t.length≤20000) (hN:q4j V t):Pure Gam 79 [.sl (t.map eNode) .no] (.bool true):=by
 refine Pure.of rfl y0c rfl rfl rfl (az:=[.sl (t.map eNode) .no]) rfl (by simp[idsL,z5h]) fun D B clk T hB hT=> ?_
 simp only[go_sem,y0b,hB]
 refine z1q (fun m q=>∃ (i:Nat) (acc:List Var) (t3:Tip) (o0 o1 o2 o3 o4:AObj),i≤t.length∧m=t.length - i∧acc.length≤i∧(∀ v∈acc,v∈U)∧q.ts 0= .sl (t.map eNode) .no∧q.ts 3= .sl (acc.map z1h) t3∧q.ts 4= .sl [] .nil∧q.ts 5= .int .i64 (i:Int)∧q.h=D++[o0,o1,o2,o3,o4]∧z7x B 1 o1 t3 2) t.length ⟨0,[], .nil,_,_,_,_,_,by omega,rfl,by simp,by simp,rfl,rfl,rfl,rfl,rfl, .inl rfl⟩ ?_
 rintro m ⟨ts,h,clk⟩ P ⟨i,acc,t3,o0,o1,o2,o3,o4,hi,rfl,hal,hacc,h0,h3,h4,h5,rfl,htip⟩ hnx he hr
 dsimp only at h0 h3 h4 h5
 by_cases hlt:i < t.length
 ·have f1:decide ((i:Int) < (t.length:Int))=true:=by rw[decide_eq_true_iff];omega
  have f2:IntKind.i64.wrap ((i:Int) + 1)=((i + 1:Nat):Int):=z0f (by omega) (by omega)
  have hti:t[i]? =some t[i]:=List.getElem?_eq_getElem hlt
  have hno:=hN t[i] (List.getElem_mem hlt)
  generalize t[i]=n at hti hno
  have f5:decide ((n.op:Int)=5)=false:=by rw[decide_eq_false_iff_not];have:=hno.1;omega
  by_cases h44:n.op=4
  ·obtain⟨v,hv,hvn,hvs⟩:=hno.2 h44
   have f4:decide ((n.op:Int)=4)=true:=by rw[decide_eq_true_iff];omega
   simp only[go_sem,x8y,h0,h3,h4,h5,List.length_map,f1,f4,z2p hti]
   refine u5n hti (by omega) (fun w hw hwn=> ?_) h0 h3 h4 h5 rfl rfl ?_
   ·rw[u5m w (hacc w hw) v (hV v hv) (by rw[hwn,hvn]),hvs]
   clear h0 h3 h4 h5
   intro ts clk h0 h3 h4 h5 h6
   cases hk:acc.any fun v=>decide (v.name=n.name) with
   | true=>
     rw[hk] at h6
     simp only[go_sem,h0,h3,h4,h5,h6,Bool.not_true,f2]
     exact hnx (t.length - (i + 1)) _ (by omega) ⟨i + 1,acc,_,_,_,_,_,_,hlt,rfl,by omega,hacc,h0,h3,h4,rfl,rfl,htip⟩
   | false=>
     rw[hk] at h6
     have e1:(AV.agg [.str n.name, .int .i64 (n.sort:Int)])=z1h v:=by rw[hvn,hvs];rfl
     simp only[go_sem,h0,h3,h4,h5,h6,Bool.not_false,f2,z2p hti]
     rw[e1,show [z1h v]=[v].map z1h from rfl,z0k hB rfl htip z3d z3d (by simp only[List.length_map,List.length_singleton];omega)]
     have happ:acc.map z1h++[z1h v]=(acc++[v]).map z1h:=by simp
     simp only[go_sem,h0,h3,h4,h5,h6,f2,happ]
     exact hnx (t.length - (i + 1)) _ (by omega) ⟨i + 1,acc++[v],_,_,_,_,_,_,hlt,rfl,by simp;omega,fun w hw=>by
      rcases List.mem_append.1 hw with hw | hw
      ·exact hacc w hw
      ·rw[List.mem_singleton.1 hw];exact hV v hv,h0,rfl,h4,rfl,rfl, .inr (.inr ⟨_,rfl,rfl⟩)⟩
  ·have f4:decide ((n.op:Int)=4)=false:=by rw[decide_eq_false_iff_not];omega
   simp only[go_sem,x8y,h0,h3,h4,h5,List.length_map,f1,f2,f4,f5,z2p hti]
   exact hnx (t.length - (i + 1)) _ (by omega) ⟨i + 1,acc,_,_,_,_,_,_,hlt,rfl,by omega,hacc,h0,h3,h4,rfl,rfl,htip⟩
 ·have f1:decide ((i:Int) < (t.length:Int))=false:=by rw[decide_eq_false_iff_not];omega
  simp only[go_sem,x8y,h0,h3,h4,h5,List.length_map,f1]
  refine he _ _ ?_
  simp only[go_sem,h0,h3,h4,h5]
  clear h5 hnx he hr
  refine z1q (fun m q=>∃ j:Nat,j≤acc.length∧m=acc.length - j∧q.ts 3= .sl (acc.map z1h) t3∧q.ts 4= .sl [] .nil∧q.ts 11= .int .i64 (j:Int)∧q.h=D++[o0,o1,o2,o3,o4]) acc.length ⟨0,by omega,rfl,h3,h4,rfl,rfl⟩ ?_
  clear h0 h3 h4
  rintro m ⟨ts,h,clk⟩ P ⟨j,hj,rfl,h3,h4,h11,rfl⟩ hnx he hr
  dsimp only at h3 h4 h11
  by_cases hlt:j < acc.length
  ·have f1:decide ((j:Int) < (acc.length:Int))=true:=by rw[decide_eq_true_iff];omega
   have f2:IntKind.i64.wrap ((j:Int) + 1)=((j + 1:Nat):Int):=z0f (by omega) (by omega)
   simp only[go_sem,x0b,h3,h4,h11,List.length_map,f1]
   refine z2e ?_
   simp only[go_sem,x0a,h3,h4,h11,decide_false,Int.lt_irrefl,f2]
   exact hnx (acc.length - (j + 1)) _ (by omega) ⟨j + 1,hlt,rfl,h3,h4,rfl,rfl⟩
  ·have f1:decide ((j:Int) < (acc.length:Int))=false:=by rw[decide_eq_false_iff_not];omega
   simp only[go_sem,x0b,h3,h4,h11,List.length_map,f1]
   refine he _ _ ?_
   simp only[go_sem,]
   rw[z0d]
   exact hT _
end
section
variable {U:List Var} [UOk U]
theorem k4b {V:List Var} {t:Term} {s d:Nat} (hV:∀ v∈V,v∈U) (htl:t.length≤20000) (hd:d≤256) (h:WF V [s] d t) (hs:1≤s):Pure Gam 129 [z0i t] (nat s):=by
 have p1:=w2t hV htl hd h
 have p2:=k4a hV htl h.names
 refine Pure.of rfl u1u rfl rfl rfl (az:=[.sl (t.map eNode) .no]) rfl (by simp[idsL,z5h]) fun D B clk T hB hT=> ?_
 have e1:decide ((20000:Int) < (t.length:Int))=false:=by rw[decide_eq_false_iff_not];omega
 have e2:decide ((s:Int)=0)=false:=by rw[decide_eq_false_iff_not];omega
 simp only[nat] at p1
 simp only[go_sem,w9z,hB,List.length_map,e1,e2,z0a p1,z0a p2,decide_true,Bool.not_true]
 rw[z0j rfl rfl]
 exact hT _
theorem w2u {B clk i s0:Nat} {H:List AObj} {t:Term} {n:Node} {V:List Var} {ts:Tmps} {ks:List Kf} {Q:Post} (hi:t[i]? =some n) (hl:V.length≤20000)
  (h0:ts 0= .sl (t.map eNode) .no) (h1:ts 1= .int .i64 (s0:Int)) (h2:ts 2= .sl (V.map z1h) .no) (h7:ts 7= .int .i64 (i:Int)) (h8:ts 8= .bool false) (h9:ts 9= .int .i64 0)
  (hQ:∀ (ts':Tmps) (clk':Nat),ts' 0= .sl (t.map eNode) .no→ts' 1= .int .i64 (s0:Int)→ts' 2= .sl (V.map z1h) .no→ts' 7= .int .i64 (i:Int)→ts' 8= .bool (V.any fun v=>decide (v.name=n.name) && decide (v.sort=n.sort))→K Gam B (.exit 2) ks ⟨ts',H,clk'⟩ Q):K Gam B (.loop q7o) ks ⟨ts,H,clk⟩ Q:=by
 refine z1q (fun m q=>∃ j:Nat,j≤V.length∧m=V.length - j∧q.ts 0= .sl (t.map eNode) .no∧q.ts 1= .int .i64 (s0:Int)∧q.ts 2= .sl (V.map z1h) .no∧q.ts 7= .int .i64 (i:Int)∧q.ts 8= .bool ((V.take j).any fun v=>decide (v.name=n.name) && decide (v.sort=n.sort))∧q.ts 9= .int .i64 (j:Int)∧q.h=H) V.length ⟨0,by omega,rfl,h0,h1,h2,h7,h8,h9,rfl⟩ ?_
 clear h0 h1 h2 h7 h8 h9
 rintro m ⟨ts,h,clk⟩ P ⟨j,hj,rfl,h0,h1,h2,h7,h8,h9,rfl⟩ hnx he hr
 dsimp only at h0 h1 h2 h7 h8 h9
 by_cases hlt:j < V.length
 ·have e1:decide ((j:Int) < (V.length:Int))=true:=by rw[decide_eq_true_iff];omega
  have e4:IntKind.i64.wrap ((j:Int) + 1)=((j + 1:Nat):Int):=z0f (by omega) (by omega)
  have ht:V.take (j + 1)=V.take j++[V[j]]:=List.take_succ_eq_append_getElem hlt
  have ha:∀ b,((V.take j).any fun v=>decide (v.name=n.name) && decide (v.sort=n.sort))=b→(b || (decide (V[j].name=n.name) && decide (V[j].sort=n.sort)))=((V.take (j + 1)).any fun v=>decide (v.name=n.name) && decide (v.sort=n.sort)):=fun b hb=>by
   rw[ht,List.any_append,hb]
   simp
  cases hb:(V.take j).any fun v=>decide (v.name=n.name) && decide (v.sort=n.sort) with
  | true=>
    have ha:=ha _ hb
    rw[hb] at h8
    simp only[go_sem,h0,h1,h2,h7,h8,h9,q7o,nat,List.length_map,e1,e4]
    exact hnx (V.length - (j + 1)) _ (by omega) ⟨j + 1,hlt,rfl,h0,h1,h2,h7,by rw[←ha];rfl,rfl,rfl⟩
  | false=>
    have ha:=ha _ hb
    rw[hb] at h8
    by_cases hnm:V[j].name=n.name
    ·have e2:decide (V[j].name=n.name)=true:=by simp[hnm]
     have e3:decide ((V[j].sort:Int)=(n.sort:Int))=decide (V[j].sort=n.sort):=by rw[decide_eq_decide];omega
     simp only[go_sem,h0,h1,h2,h7,h8,h9,q7o,nat,List.length_map,e1,e2,e3,z9a hlt,z2p hi,e4]
     exact hnx (V.length - (j + 1)) _ (by omega) ⟨j + 1,hlt,rfl,h0,h1,h2,h7,by rw[←ha,e2];simp[z0c],rfl,rfl⟩
    ·have e2:decide (V[j].name=n.name)=false:=by simp[hnm]
     simp only[go_sem,h0,h1,h2,h7,h8,h9,q7o,nat,List.length_map,e1,e2,z9a hlt,z2p hi,e4]
     exact hnx (V.length - (j + 1)) _ (by omega) ⟨j + 1,hlt,rfl,h0,h1,h2,h7,by rw[←ha,e2];simp[z0c],rfl,rfl⟩
 ·have e1:decide ((j:Int) < (V.length:Int))=false:=by rw[decide_eq_false_iff_not];omega
  rw[List.take_of_length_le (by omega)] at h8
  simp only[go_sem,h0,h1,h2,h7,h8,h9,q7o,List.length_map,e1]
  refine he _ _ ?_
  exact hQ _ _ (by simp[z0c,h0]) (by simp[z0c,h1]) (by simp[z0c,h2]) (by simp[z0c,h7]) (by simp[z0c,h8])
theorem j2o {V:List Var} {t:Term} {s d:Nat} (hV:∀ v∈V,v∈U) (hVl:V.length≤1000) (htl:t.length≤20000) (hd:d≤256) (h:WF V [s] d t) (hs:1≤s):Pure Gam 113 [z0i t,nat s, .sl (V.map z1h) .no] (.bool true):=by
 have p1:=k4b hV htl hd h hs
 have hN:=h.names
 refine Pure.of rfl u1t rfl rfl rfl (az:=[.sl (t.map eNode) .no,nat s, .sl (V.map z1h) .no]) rfl (by simp[idsL,z5h,z3q,z6b]) fun D B clk T hB hT=> ?_
 have e1:decide ((s:Int)=0)=false:=by rw[decide_eq_false_iff_not];omega
 simp only[nat,z0i] at p1
 simp only[go_sem,w9y,hB,nat,e1,z0a p1,decide_true,Bool.not_true]
 refine z1q (fun m q=>∃ i:Nat,i≤t.length∧m=t.length - i∧q.ts 0= .sl (t.map eNode) .no∧q.ts 1= .int .i64 (s:Int)∧q.ts 2= .sl (V.map z1h) .no∧q.ts 7= .int .i64 (i:Int)∧q.h=D) t.length ⟨0,by omega,rfl,rfl,rfl,rfl,rfl,by simp⟩ ?_
 rintro m ⟨ts,h',clk⟩ P ⟨i,hi,rfl,h0,h1,h2,h7,rfl⟩ hnx he hr
 dsimp only at h0 h1 h2 h7
 by_cases hlt:i < t.length
 ·have f1:decide ((i:Int) < (t.length:Int))=true:=by rw[decide_eq_true_iff];omega
  have f2:IntKind.i64.wrap ((i:Int) + 1)=((i + 1:Nat):Int):=z0f (by omega) (by omega)
  have hti:t[i]? =some t[i]:=List.getElem?_eq_getElem hlt
  have hno:=hN t[i] (List.getElem_mem hlt)
  generalize t[i]=n at hti hno
  have f5:decide ((n.op:Int)=5)=false:=by rw[decide_eq_false_iff_not];have:=hno.1;omega
  by_cases h44:n.op=4
  ·obtain⟨v,hv,hvn,hvs⟩:=hno.2 h44
   have f4:decide ((n.op:Int)=4)=true:=by rw[decide_eq_true_iff];omega
   simp only[go_sem,x8x,h0,h1,h2,h7,List.length_map,f1,f4,f5,z2p hti,Bool.not_true]
   refine w2u hti (by omega) h0 h1 h2 h7 rfl rfl ?_
   clear h0 h1 h2 h7
   intro ts clk h0 h1 h2 h7 h8
   have hk:(V.any fun v=>decide (v.name=n.name) && decide (v.sort=n.sort))=true:=List.any_eq_true.2 ⟨v,hv,by simp[hvn,hvs]⟩
   rw[hk] at h8
   simp only[go_sem,h0,h1,h2,h7,h8,Bool.not_true,f2]
   exact hnx (t.length - (i + 1)) _ (by omega) ⟨i + 1,hlt,rfl,h0,h1,h2,rfl,rfl⟩
  ·have f4:decide ((n.op:Int)=4)=false:=by rw[decide_eq_false_iff_not];omega
   simp only[go_sem,x8x,h0,h1,h2,h7,List.length_map,f1,f2,f4,f5,z2p hti,Bool.not_false]
   exact hnx (t.length - (i + 1)) _ (by omega) ⟨i + 1,hlt,rfl,h0,h1,h2,rfl,rfl⟩
 ·have f1:decide ((i:Int) < (t.length:Int))=false:=by rw[decide_eq_false_iff_not];omega
  simp only[go_sem,x8x,h0,h1,h2,h7,List.length_map,f1]
  refine he _ _ ?_
  simp only[go_sem,]
  rw[z0d]
  exact hT _
end
def z3t (ps:List Func) (nm:List Nat):Int:=match ps.findIdx? (fun p=>decide (p.name=nm)) with
 | some i=>(i:Int)
 | none=> -1
theorem q1k {ps:List Func} {nm:List Nat} {i:Nat} (hi:i < ps.length) (h:ps[i].name=nm) (hn:∀ p∈ps.take i,p.name≠nm):z3t ps nm=(i:Int):=by
 have:ps.findIdx? (fun p=>decide (p.name=nm))=some i:=by
  rw[List.findIdx?_eq_some_iff_getElem]
  refine⟨hi,by simp[h],fun j hj=> ?_⟩
  have:=hn ps[j] (List.mem_take_iff_getElem.2 ⟨j,by omega,rfl⟩)
  simp[this]
 rw[z3t,this]
theorem z9e {ps:List Func} {nm:List Nat} (hn:∀ p∈ps,p.name≠nm):z3t ps nm= -1:=by
 have:ps.findIdx? (fun p=>decide (p.name=nm))=none:=by
  rw[List.findIdx?_eq_none_iff]
  intro p hp
  simp[hn p hp]
 rw[z3t,this]
theorem q5w {s:Sys} {nm:List Nat} (hl:s.preds.length≤1000):Pure Gam 32 [z1b s, .str nm] (.int .i64 (z3t s.preds nm)):=by
 refine Pure.of rfl g2n rfl rfl rfl (az:=[z1b s, .str nm]) rfl (by simp[idsL,z2k,AV.ids]) fun D B clk T hB hT=> ?_
 simp only[go_sem,u7l,hB,z1b]
 refine z1q (fun m q=>∃ (i g:Nat),i≤s.preds.length∧m=s.preds.length - i∧(∀ p∈s.preds.take i,p.name≠nm)∧q.ts 1= .str nm∧q.ts 2= .ptr (B + 0) g 0 0∧q.ts 5= .int .i64 (i:Int)∧q.h=D++[.blk g [.agg [.sl (s.preds.map z1e) .no, .sl (s.clauses.map z0e) .no]] false false 0]) s.preds.length ⟨0,_,by omega,rfl,by simp,rfl,rfl,rfl,rfl⟩ ?_
 rintro m ⟨ts,h',clk⟩ P ⟨i,g,hi,rfl,hno,h1,h2,h5,rfl⟩ hnx he hr
 dsimp only at h1 h2 h5
 by_cases hlt:i < s.preds.length
 ·have f1:decide ((i:Int) < (s.preds.length:Int))=true:=by rw[decide_eq_true_iff];omega
  have f2:IntKind.i64.wrap ((i:Int) + 1)=((i + 1:Nat):Int):=z0f (by omega) (by omega)
  have ht:s.preds.take (i + 1)=s.preds.take i++[s.preds[i]]:=List.take_succ_eq_append_getElem hlt
  by_cases hnm:s.preds[i].name=nm
  ·have e2:decide (s.preds[i].name=nm)=true:=by simp[hnm]
   simp only[go_sem,k1x,h1,h2,h5,hB,List.length_map,f1,e2,z8l hlt]
   refine hr _ ?_
   rw[q1k hlt hnm hno] at hT
   simp only[go_sem,]
   rw[z0j rfl rfl]
   exact hT _
  ·have e2:decide (s.preds[i].name=nm)=false:=by simp[hnm]
   simp only[go_sem,k1x,h1,h2,h5,hB,List.length_map,f1,f2,e2,z8l hlt]
   refine hnx (s.preds.length - (i + 1)) _ (by omega) ⟨i + 1,g,hlt,rfl,fun p hp=> ?_,h1,h2,rfl,rfl⟩
   rw[ht] at hp
   rcases List.mem_append.1 hp with hp | hp
   ·exact hno p hp
   ·rw[List.mem_singleton.1 hp];exact hnm
 ·have f1:decide ((i:Int) < (s.preds.length:Int))=false:=by rw[decide_eq_false_iff_not];omega
  rw[List.take_of_length_le (by omega)] at hno
  simp only[go_sem,k1x,h1,h2,h5,hB,List.length_map,f1]
  refine he _ _ ?_
  rw[z9e hno] at hT
  simp only[go_sem,]
  rw[z0j rfl rfl]
  exact hT _
theorem k4c {V:List Var} {nm:List Nat} {u:Tip} (hl:V.length≤1000) (hno:∀ v∈V,v.name≠nm):Pure Gam 115 [.sl (V.map z1h) u, .str nm] (.bool false):=by
 refine Pure.of rfl u2e rfl rfl rfl (az:=[.sl (V.map z1h) .no, .str nm]) rfl (by simp[idsL,z6b,AV.ids,z0b z1k]) fun D B clk T hB hT=> ?_
 simp only[go_sem,y0h,hB]
 refine z1q (fun m q=>∃ (i:Nat),i≤V.length∧m=V.length - i∧q.ts 0= .sl (V.map z1h) .no∧q.ts 1= .str nm∧q.ts 5= .int .i64 (i:Int)∧q.h=D) V.length ⟨0,by omega,rfl,rfl,rfl,rfl,by simp⟩ ?_
 rintro m ⟨ts,h',clk⟩ P ⟨i,hi,rfl,h0,h1,h5,rfl⟩ hnx he hr
 dsimp only at h0 h1 h5
 by_cases hlt:i < V.length
 ·have f1:decide ((i:Int) < (V.length:Int))=true:=by rw[decide_eq_true_iff];omega
  have f2:IntKind.i64.wrap ((i:Int) + 1)=((i + 1:Nat):Int):=z0f (by omega) (by omega)
  have e2:decide (V[i].name=nm)=false:=by simp[hno _ (List.getElem_mem hlt)]
  simp only[go_sem,j4e,h0,h1,h5,hB,List.length_map,f1,f2,e2,z9a hlt]
  exact hnx (V.length - (i + 1)) _ (by omega) ⟨i + 1,hlt,rfl,h0,h1,rfl,rfl⟩
 ·have f1:decide ((i:Int) < (V.length:Int))=false:=by rw[decide_eq_false_iff_not];omega
  simp only[go_sem,j4e,h0,h1,h5,hB,List.length_map,f1]
  refine he _ _ ?_
  simp only[go_sem,]
  rw[z0d]
  exact hT _
theorem j8s {ps:List Func} {f:Func} (hp:PrOk ps) (hf:f∈ps):∃ k,∃ h:k < ps.length,ps[k]=f∧z3t ps f.name=(k:Int):=by
 obtain⟨k,hk,rfl⟩:=List.mem_iff_getElem.1 hf
 refine⟨k,hk,rfl,q1k hk rfl fun p hpm e=> ?_⟩
 have h3:=hp.nodup
 have h4:((ps.take (k + 1)).map (·.name)).Nodup:=h3.sublist ((List.take_sublist _ _).map _)
 rw[List.take_succ_eq_append_getElem hk,List.map_append,List.nodup_append] at h4
 exact h4.2.2 _ (List.mem_map.2 ⟨p,hpm,rfl⟩) _ (by simp) e
theorem w2v {s:Sys} {c:Clause} {a:App} (hs:SysV s) (hV:∀ v∈c.vars,v∈z2m) (hVl:c.vars.length≤1000) (ha:AppOk s.preds c.vars a):Pure Gam 155 [z1b s,z0e c,z1p a] (.bool true):=by
 obtain⟨f,hf,hpn,hal,hz⟩:=ha
 obtain⟨k,hk,hkf,hpa⟩:=j8s hs.pr hf
 have hfl:=(hs.pr.args f hf).1
 have hpl:s.preds.length≤1000:=by have:=hs.preds.length_le;simp[allPreds] at this;omega
 have p1:=q5w (s:=s) (nm:=a.pred) hpl
 rw[hpn,hpa] at p1
 simp only[z1b] at p1
 refine Pure.of rfl u1r rfl rfl rfl (az:=[z1b s,z0e c,z1p a]) rfl (by simp[idsL,z2k,z1j,z4f]) fun D B clk T hB hT=> ?_
 have e1:decide ((k:Int) < 0)=false:=by rw[decide_eq_false_iff_not];omega
 simp only[go_sem,w9x,hB,z1b,z0e,z1p,hpn,List.length_map,z0a p1,e1,hal,z8l hk,hkf,decide_true,Bool.not_true]
 refine z1q (fun m q=>∃ (i g0 g1 g2:Nat),i≤f.args.length∧m=f.args.length - i∧q.ts 3= .ptr (B + 0) g0 0 0∧q.ts 4= .ptr (B + 1) g1 0 0∧q.ts 5= .ptr (B + 2) g2 0 0∧q.ts 7= .int .i64 (k:Int)∧q.ts 8= .int .i64 (i:Int)∧q.h=D++[.blk g0 [.agg [.sl (s.preds.map z1e) .no, .sl (s.clauses.map z0e) .no]] false false 0, .blk g1 [.agg [.sl (c.vars.map z1h) .no, .sl (c.body.map z1p) .no,z0i c.guard, .str c.head.pred, .sl (c.head.args.map z0i) .no]] false false 0, .blk g2 [.agg [.str f.name, .sl (a.args.map z0i) .no]] false false 0]) f.args.length ⟨0,_,_,_,by omega,rfl,rfl,rfl,rfl,rfl,rfl,rfl⟩ ?_
 rintro m ⟨ts,h',clk⟩ P ⟨i,g0,g1,g2,hi,rfl,h3,h4,h5,h7,h8,rfl⟩ hnx he hr
 dsimp only at h3 h4 h5 h7 h8
 by_cases hlt:i < f.args.length
 ·have f1:decide ((i:Int) < (f.args.length:Int))=true:=by rw[decide_eq_true_iff];omega
  have f2:IntKind.i64.wrap ((i:Int) + 1)=((i + 1:Nat):Int):=z0f (by omega) (by omega)
  have hlt2:i < a.args.length:=by omega
  have hg:=hz (f.args[i],a.args[i]) (by
   rw[List.mem_iff_getElem]
   exact⟨i,by simp;omega,by simp⟩)
  have p2:=j2o hV hVl (by have:=hg.2.1;omega) (by decide) hg.1 hg.2.2.1
  simp only[nat] at p2
  simp only[go_sem,j4a,h3,h4,h5,h7,h8,hB,List.length_map,hal,f1,f2,q1e hlt2,z8l hk,hkf,z7y hlt,nat,z0a p2,Bool.not_true]
  exact hnx (f.args.length - (i + 1)) _ (by omega) ⟨i + 1,g0,g1,g2,hlt,rfl,h3,h4,h5,h7,rfl,rfl⟩
 ·have f1:decide ((i:Int) < (f.args.length:Int))=false:=by rw[decide_eq_false_iff_not];omega
  simp only[go_sem,j4a,h3,h4,h5,h7,h8,hB,List.length_map,hal,f1]
  refine he _ _ ?_
  simp only[go_sem,]
  rw[z0d]
  exact hT _
theorem x0z {V:List Var} (h:List.Sublist V z2m):V.length≤8:=by have:=h.length_le;simpa [z2m] using this
theorem w2w {s:Sys} {V:List Var} (hs:SysV s) (hV:List.Sublist V z2m):Pure Gam 154 [z1b s, .sl (V.map z1h) .no] (.bool true):=by
 have hVl:=x0z hV
 have hnd:(V.map (·.name)).Nodup:=(hV.map _).nodup (by decide)
 have hpl:s.preds.length≤1000:=by have:=hs.preds.length_le;simp[allPreds] at this;omega
 refine Pure.of rfl u1q rfl rfl rfl (az:=[z1b s, .sl (V.map z1h) .no]) rfl (by simp[idsL,z2k,z6b]) fun D B clk T hB hT=> ?_
 simp only[go_sem,w9w,hB,z1b]
 refine z1q (fun m q=>∃ (i g0:Nat),i≤V.length∧m=V.length - i∧q.ts 1= .sl (V.map z1h) .no∧q.ts 2= .ptr (B + 0) g0 0 0∧q.ts 5= .int .i64 (i:Int)∧q.h=D++[.blk g0 [.agg [.sl (s.preds.map z1e) .no, .sl (s.clauses.map z0e) .no]] false false 0]) V.length ⟨0,_,by omega,rfl,rfl,rfl,rfl,rfl⟩ ?_
 rintro m ⟨ts,h',clk⟩ P ⟨i,g0,hi,rfl,h1,h2,h5,rfl⟩ hnx he hr
 dsimp only at h1 h2 h5
 by_cases hlt:i < V.length
 ·have f1:decide ((i:Int) < (V.length:Int))=true:=by rw[decide_eq_true_iff];omega
  have f2:IntKind.i64.wrap ((i:Int) + 1)=((i + 1:Nat):Int):=z0f (by omega) (by omega)
  have hv:V[i]∈z2m:=hV.mem (List.getElem_mem hlt)
  have hnew:∀ v∈V.take i,v.name≠V[i].name:=fun v hv e=>by
   have h4:((V.take (i + 1)).map (·.name)).Nodup:=hnd.sublist ((List.take_sublist _ _).map _)
   rw[List.take_succ_eq_append_getElem hlt,List.map_append,List.nodup_append] at h4
   exact h4.2.2 _ (List.mem_map.2 ⟨v,hv,rfl⟩) _ (by simp) e
  have hso:=q5r hv
  have p1:=k3y hv
  have p2:=j2n hso.1 hso.2
  have p3:=k4c (u:= .no) (V:=V.take i) (nm:=V[i].name) (by simp;omega) hnew
  have p4:=q5w (s:=s) (nm:=V[i].name) hpl
  rw[z9e fun p hp=>hs.apart p hp _ hv] at p4
  simp only[nat,z1b] at p2 p4
  have e3:∀ h,slV h (some 2) (.sl (V.map z1h) .no) none (some (.int .i64 (i:Int))) none=some (.sl ((V.take i).map z1h) .no,h):=fun h=>by
   have hh:z5m 2 (V.map z1h)=true:=by cases V <;> rfl
   rw[q8h (by simp;omega) hh,List.map_take];simp
  simp only[go_sem,j3z,h1,h2,h5,hB,List.length_map,f1,f2,z9a hlt,nat,z0a p1,z0a p2,e3,z0a p3,z0a p4,Bool.not_true,Bool.not_false,Int.reduceLE,decide_false]
  exact hnx (V.length - (i + 1)) _ (by omega) ⟨i + 1,g0,hlt,rfl,h1,h2,rfl,rfl⟩
 ·have f1:decide ((i:Int) < (V.length:Int))=false:=by rw[decide_eq_false_iff_not];omega
  simp only[go_sem,j3z,h1,h2,h5,hB,List.length_map,f1]
  refine he _ _ ?_
  simp only[go_sem,]
  rw[z0d]
  exact hT _
def q1l (h:List AObj) (n esz:Nat) (x ix:AV):Option (AV×List AObj):=match ix with
 | .int _ i=>if 0≤i then match x with
   | .ptr s g k o=>if i.toNat < n then some (.ptr s g k (o + i.toNat * esz),h) else none
   | .iptr cs o=>if i.toNat < n then some (.iptr cs (o + i.toNat * esz),h) else none
   | _=>none
   else none
 | _=>none
theorem w2x {h:List AObj} {base g n esz:Nat} {ts:Tmps} {x ix:AOpd}:prim h base g ts (.indexAddr (some n) esz x ix)=q1l h n esz (x.ev ts) (ix.ev ts):=by
 simp only[prim,q1l]
 cases ix.ev ts <;> try rfl
 cases x.ev ts <;> rfl
theorem w2y {B n esz g clk:Nat} {ts:Tmps} {h:List AObj} {x ix:AOpd} {dst:Option Nat} {os:List AOper} {ks:List Kf} {Q:Post}:O Gam B .plain g (⟨dst,(.indexAddr (some n) esz x ix),none⟩::os) ⟨ts,h,clk⟩ ks Q=PP Gam B (q1l h n esz (x.ev ts) (ix.ev ts)) dst g os ts clk ks Q:=by rw[q4b rfl,w2x]
attribute [go_sem] w2y
theorem w2z {f:Func} (hf:f∈allPreds):Pure Gam 215 [z1e f] (.bool true):=by
 refine Pure.tab (tab:=j9i) rfl rfl ?_
 simp only[allPreds,List.mem_cons,List.not_mem_nil,or_false] at hf
 rcases hf with rfl | rfl | rfl | rfl | rfl | rfl <;> rfl
theorem SysV.pl {s:Sys} (hs:SysV s):s.preds.length≤6:=by have:=hs.preds.length_le;simpa [allPreds] using this
theorem w3a {s:Sys} (hs:SysV s):Pure Gam 153 [z1b s] (.bool true):=by
 have hpl:=hs.pl
 refine Pure.of rfl u1p rfl rfl rfl (az:=[z1b s]) rfl (by simp[idsL,z2k]) fun D B clk T hB hT=> ?_
 simp only[go_sem,w9v,hB,z1b]
 refine z1q (fun m q=>∃ (i g0:Nat),i≤s.preds.length∧m=s.preds.length - i∧q.ts 1= .ptr (B + 0) g0 0 0∧q.ts 3= .int .i64 (i:Int)∧q.h=D++[.blk g0 [.agg [.sl (s.preds.map z1e) .no, .sl (s.clauses.map z0e) .no]] false false 0]) s.preds.length ⟨0,_,by omega,rfl,rfl,rfl,rfl⟩ ?_
 rintro m ⟨ts,h',clk⟩ P ⟨i,g0,hi,rfl,h1,h3,rfl⟩ hnx he hr
 dsimp only at h1 h3
 by_cases hlt:i < s.preds.length
 ·have f1:decide ((i:Int) < (s.preds.length:Int))=true:=by rw[decide_eq_true_iff];omega
  have f2:IntKind.i64.wrap ((i:Int) + 1)=((i + 1:Nat):Int):=z0f (by omega) (by omega)
  have hm:=List.getElem_mem hlt
  have p1:=w2z (hs.preds.mem hm)
  have hres:∀ f∈allPreds,f.result=1:=by decide
  have e1:=hres _ (hs.preds.mem hm)
  have p2:=q5w (s:=s) (nm:=s.preds[i].name) (by omega)
  rw[q1k hlt rfl fun p hpm e=>by
   have h3:=hs.pr.nodup
   have h4:((s.preds.take (i + 1)).map (·.name)).Nodup:=h3.sublist ((List.take_sublist _ _).map _)
   rw[List.take_succ_eq_append_getElem hlt,List.map_append,List.nodup_append] at h4
   exact h4.2.2 _ (List.mem_map.2 ⟨p,hpm,rfl⟩) _ (by simp) e] at p2
  simp only[z1e,z1b,nat] at p1 p2
  rw[e1] at p1
  simp only[Int.cast_ofNat_Int] at p1
  simp only[go_sem,j3y,h1,h3,hB,List.length_map,f1,f2,z8l hlt,e1,nat,z0a p1,z0a p2,Int.cast_ofNat_Int,decide_true,Bool.not_true]
  exact hnx (s.preds.length - (i + 1)) _ (by omega) ⟨i + 1,g0,hlt,rfl,h1,rfl,rfl⟩
 ·have f1:decide ((i:Int) < (s.preds.length:Int))=false:=by rw[decide_eq_false_iff_not];omega
  simp only[go_sem,j3y,h1,h3,hB,List.length_map,f1]
  refine he _ _ ?_
  simp only[go_sem,]
  rw[z0d]
  exact hT _
theorem y4n {s:Sys} (hs:SysV s):Pure Gam 88 [z1b s] (.sl [] .no):=by
 have hpl:=hs.pl
 have hcl:=hs.len
 have p0:=w3a hs
 simp only[z1b] at p0
 refine Pure.of rfl g2m rfl rfl rfl (az:=[z1b s]) rfl (by simp[idsL,z2k]) fun D B clk T hB hT=> ?_
 have ea1:∀ (h:List AObj) (g:Nat),q1l h 7 1 (.ptr (B + 6) g 0 0) (.int .i64 1)=some (.ptr (B + 6) g 0 1,h):=fun _ _=>rfl
 have ea2:∀ (h:List AObj) (g:Nat),q1l h 7 1 (.ptr (B + 6) g 0 0) (.int .i64 2)=some (.ptr (B + 6) g 0 2,h):=fun _ _=>rfl
 have ea3:∀ (h:List AObj) (g:Nat),q1l h 7 1 (.ptr (B + 6) g 0 0) (.int .i64 3)=some (.ptr (B + 6) g 0 3,h):=fun _ _=>rfl
 have ea4:∀ (h:List AObj) (g:Nat),q1l h 7 1 (.ptr (B + 6) g 0 0) (.int .i64 4)=some (.ptr (B + 6) g 0 4,h):=fun _ _=>rfl
 have ea5:∀ (h:List AObj) (g:Nat),q1l h 7 1 (.ptr (B + 6) g 0 0) (.int .i64 5)=some (.ptr (B + 6) g 0 5,h):=fun _ _=>rfl
 have ea6:∀ (h:List AObj) (g:Nat),q1l h 7 1 (.ptr (B + 6) g 0 0) (.int .i64 6)=some (.ptr (B + 6) g 0 6,h):=fun _ _=>rfl
 have f0:decide ((512:Int) < (s.preds.length:Int))=false:=by rw[decide_eq_false_iff_not];omega
 have f00:decide ((2048:Int) < (s.clauses.length:Int))=false:=by rw[decide_eq_false_iff_not];omega
 simp only[go_sem,u7d,hB,z1b,z0a p0,Bool.not_true,List.length_map,f0,f00]
 refine z1q (fun m q=>∃ (i g0:Nat) (o1 o2 o3 o4 o5 o6 o7 o8:AObj),i≤s.clauses.length∧m=s.clauses.length - i∧q.ts 1= .ptr (B + 0) g0 0 0∧q.ts 3= .sl [] .nil∧q.ts 4= .int .i64 (i:Int)∧q.h=D++[.blk g0 [.agg [.sl (s.preds.map z1e) .no, .sl (s.clauses.map z0e) .no]] false false 0,o1,o2,o3,o4,o5,o6,o7,o8]) s.clauses.length ⟨0,_,_,_,_,_,_,_,_,_,by omega,rfl,rfl,rfl,rfl,rfl⟩ ?_
 rintro m ⟨ts,h',clk⟩ P ⟨i,g0,o1,o2,o3,o4,o5,o6,o7,o8,hi,rfl,h1,h3,h4,rfl⟩ hnx he hr
 dsimp only at h1 h3 h4
 by_cases hlt:i < s.clauses.length
 ·have f1:decide ((i:Int) < (s.clauses.length:Int))=true:=by rw[decide_eq_true_iff];omega
  have f2:IntKind.i64.wrap ((i:Int) + 1)=((i + 1:Nat):Int):=z0f (by omega) (by omega)
  have hc:=hs.clauses _ (List.getElem_mem hlt)
  have hix:∀ h,z1n h 5 (.sl (s.clauses.map z0e) .no) (.int .i64 (i:Int))=some (.iptr [.sl (s.clauses[i].vars.map z1h) .no, .sl (s.clauses[i].body.map z1p) .no,z0i s.clauses[i].guard, .str s.clauses[i].head.pred, .sl (s.clauses[i].head.args.map z0i) .no] 0,h):=fun h=>z3j hlt rfl rfl
  generalize s.clauses[i]=c at hc hix
  obtain⟨hv,hb,hbo,hg,hh⟩:=hc
  have hvl:=x0z hv
  have hvm:∀ v∈c.vars,v∈z2m:=fun v h=>hv.mem h
  have p1:=w2w hs hv
  have p2:=j2o hvm (by omega) (by have:=hg.2.1;omega) (by decide) hg.1 (by decide)
  simp only[z1b,nat,z0i,Int.cast_ofNat_Int] at p1 p2
  have p3:∀ a,AppOk s.preds c.vars a→Pure Gam 155 [.agg [.sl (s.preds.map z1e) .no, .sl (s.clauses.map z0e) .no], .agg [.sl (c.vars.map z1h) .no, .sl (c.body.map z1p) .no, .sl (c.guard.map eNode) .no, .str c.head.pred, .sl (c.head.args.map z0i) .no], .agg [.str a.pred, .sl (a.args.map z0i) .no]] (.bool true):=fun a ha=>w2v hs hvm (by omega) ha
  simp only[go_sem,k7p,h1,h3,h4,hB,List.length_map,f1,hix,z0i,z0a p1,Bool.not_true,ea2]
  refine z1q (fun m q=>∃ (j g5 g6:Nat),j≤c.body.length∧m=c.body.length - j∧q.ts 1= .ptr (B + 0) g0 0 0∧q.ts 3= .sl [] .nil∧q.ts 4= .int .i64 (i:Int)∧q.ts 5= .ptr (B + 5) g5 0 0∧q.ts 6= .ptr (B + 6) g6 0 0∧q.ts 7= .int .i64 (j:Int)∧q.h=D++[.blk g0 [.agg [.sl (s.preds.map z1e) .no, .sl (s.clauses.map z0e) .no]] false false 0,o1,o2,o3,o4, .blk g5 [.agg [.sl (c.vars.map z1h) .no, .sl (c.body.map z1p) .no, .sl (c.guard.map eNode) .no, .str c.head.pred, .sl (c.head.args.map z0i) .no]] false false 0, .blk g6 [.agg [.bool false, .bool false, .bool false, .bool false, .bool false, .bool false, .bool false]] false false 0,o7,o8]) c.body.length ⟨0,_,_,by omega,rfl,h1,h3,h4,rfl,rfl,rfl,rfl⟩ ?_
  clear h1 h3 h4
  rintro m ⟨ts,h',clk⟩ P2 ⟨j,g5,g6,hj,rfl,h1,h3,h4,h5,h6,h7,rfl⟩ hnx2 he2 hr2
  dsimp only at h1 h3 h4 h5 h6 h7
  by_cases hltj:j < c.body.length
  ·have e1:decide ((j:Int) < (c.body.length:Int))=true:=by rw[decide_eq_true_iff];omega
   have e2:IntKind.i64.wrap ((j:Int) + 1)=((j + 1:Nat):Int):=z0f (by omega) (by omega)
   have hja:∀ h,z1n h 2 (.sl (c.body.map z1p) .no) (.int .i64 (j:Int))=some (.iptr [.str c.body[j].pred, .sl (c.body[j].args.map z0i) .no] 0,h):=fun h=>z3j hltj rfl rfl
   have p4:=p3 _ (hbo _ (List.getElem_mem hltj))
   simp only[go_sem,k1w,h1,h3,h4,h5,h6,h7,hB,List.length_map,e1,ea3,hja,z0a p4,Bool.not_true,e2]
   exact hnx2 (c.body.length - (j + 1)) _ (by omega) ⟨j + 1,g5,g6,hltj,rfl,h1,h3,h4,h5,h6,rfl,rfl⟩
  ·have e1:decide ((j:Int) < (c.body.length:Int))=false:=by rw[decide_eq_false_iff_not];omega
   simp only[go_sem,k1w,h1,h3,h4,h5,h6,h7,hB,List.length_map,e1]
   refine he2 _ _ ?_
   have g1:decide ((400:Int) < (c.vars.length:Int))=false:=by rw[decide_eq_false_iff_not];omega
   have g2:decide ((8:Int) < (c.body.length:Int))=false:=by rw[decide_eq_false_iff_not];omega
   have last:∀ (ts:Tmps) (clk:Nat),ts 1= .ptr (B + 0) g0 0 0→ts 3= .sl [] .nil→ts 4= .int .i64 (i:Int)→ts 6= .ptr (B + 6) g6 0 0→ts 8= .int .i64 1→K Gam B (.loop q7z) [.block 4, .block 1, .seq (.region 3 [⟨some 35, .move (.tmp 4),none⟩,⟨some 36, .binOp .add (.one .int) (.tmp 35) (.const (.int .i64 1)),none⟩,⟨some 4, .move (.tmp 36),none⟩] [])] ⟨ts,D++[.blk g0 [.agg [.sl (s.preds.map z1e) .no, .sl (s.clauses.map z0e) .no]] false false 0,o1,o2,o3,o4, .blk g5 [.agg [.sl (c.vars.map z1h) .no, .sl (c.body.map z1p) .no, .sl (c.guard.map eNode) .no, .str c.head.pred, .sl (c.head.args.map z0i) .no]] false false 0, .blk g6 [.agg [.bool false, .bool false, .bool false, .bool false, .bool false, .bool false, .bool false]] false false 0,o7,o8],clk⟩ P:=by
    clear h1 h3 h4 h5 h6
    intro ts clk h1 h3 h4 h6 h8
    refine z1q (fun m q=>∃ k:Nat,1≤k∧k≤7∧m=7 - k∧q.ts 1= .ptr (B + 0) g0 0 0∧q.ts 3= .sl [] .nil∧q.ts 4= .int .i64 (i:Int)∧q.ts 6= .ptr (B + 6) g6 0 0∧q.ts 8= .int .i64 (k:Int)∧q.h=D++[.blk g0 [.agg [.sl (s.preds.map z1e) .no, .sl (s.clauses.map z0e) .no]] false false 0,o1,o2,o3,o4, .blk g5 [.agg [.sl (c.vars.map z1h) .no, .sl (c.body.map z1p) .no, .sl (c.guard.map eNode) .no, .str c.head.pred, .sl (c.head.args.map z0i) .no]] false false 0, .blk g6 [.agg [.bool false, .bool false, .bool false, .bool false, .bool false, .bool false, .bool false]] false false 0,o7,o8]) 6 ⟨1,by omega,by omega,rfl,h1,h3,h4,h6,h8,rfl⟩ ?_
    clear h1 h3 h4 h6 h8
    rintro m ⟨ts,h',clk⟩ P3 ⟨k,hk1,hk7,rfl,h1,h3,h4,h6,h8,rfl⟩ hnx3 he3 hr3
    dsimp only at h1 h3 h4 h6 h8
    have step:∀ k:Nat,IntKind.i64.wrap ((k:Int) + 1)=((k + 1:Nat):Int)∨7 < k:=fun k=>by
     by_cases hk:k≤7
     ·exact .inl (z0f (by omega) (by omega))
     ·exact .inr (by omega)
    have hw:=(step k).resolve_right (by omega)
    by_cases hk:k < 7
    ·have e1:decide ((k:Int) < 7)=true:=by rw[decide_eq_true_iff];omega
     have hcase:k=1∨k=2∨k=3∨k=4∨k=5∨k=6:=by omega
     rcases hcase with rfl | rfl | rfl | rfl | rfl | rfl
     ·simp only[Int.cast_ofNat_Int] at h8 hw e1
      simp only[go_sem,q7z,h1,h3,h4,h6,h8,hB,e1,ea1,hw]
      exact hnx3 (7 - 2) _ (by omega) ⟨2,by omega,by omega,rfl,h1,h3,h4,h6,rfl,rfl⟩
     ·simp only[Int.cast_ofNat_Int] at h8 hw e1
      simp only[go_sem,q7z,h1,h3,h4,h6,h8,hB,e1,ea2,hw]
      exact hnx3 (7 - 3) _ (by omega) ⟨3,by omega,by omega,rfl,h1,h3,h4,h6,rfl,rfl⟩
     ·simp only[Int.cast_ofNat_Int] at h8 hw e1
      simp only[go_sem,q7z,h1,h3,h4,h6,h8,hB,e1,ea3,hw]
      exact hnx3 (7 - 4) _ (by omega) ⟨4,by omega,by omega,rfl,h1,h3,h4,h6,rfl,rfl⟩
     ·simp only[Int.cast_ofNat_Int] at h8 hw e1
      simp only[go_sem,q7z,h1,h3,h4,h6,h8,hB,e1,ea4,hw]
      exact hnx3 (7 - 5) _ (by omega) ⟨5,by omega,by omega,rfl,h1,h3,h4,h6,rfl,rfl⟩
     ·simp only[Int.cast_ofNat_Int] at h8 hw e1
      simp only[go_sem,q7z,h1,h3,h4,h6,h8,hB,e1,ea5,hw]
      exact hnx3 (7 - 6) _ (by omega) ⟨6,by omega,by omega,rfl,h1,h3,h4,h6,rfl,rfl⟩
     ·simp only[Int.cast_ofNat_Int] at h8 hw e1
      simp only[go_sem,q7z,h1,h3,h4,h6,h8,hB,e1,ea6,hw]
      exact hnx3 (7 - 7) _ (by omega) ⟨7,by omega,by omega,rfl,h1,h3,h4,h6,rfl,rfl⟩
    ·have e1:decide ((k:Int) < 7)=false:=by rw[decide_eq_false_iff_not];omega
     simp only[go_sem,q7z,h1,h3,h4,h6,h8,hB,e1]
     refine he3 _ _ ?_
     simp only[go_sem,h1,h3,h4,f2]
     exact hnx (s.clauses.length - (i + 1)) _ (by omega) ⟨i + 1,g0,_,_,_,_,_,_,_,_,hlt,rfl,h1,h3,rfl,rfl⟩
   rcases hh with ⟨hp,hargs⟩ | ha
   ·have g3:decide (c.head.pred=[])=true:=by simp[hp]
    simp only[hargs,List.map_nil] at last
    simp only[go_sem,h1,h3,h4,h5,h6,hB,z0a p2,Bool.not_true,Bool.not_false,ea4,ea5,ea6,g1,g2,g3,hargs,List.map_nil,decide_false,Int.lt_irrefl,List.length_map]
    exact last _ _ h1 h3 h4 h6 rfl
   ·obtain⟨f,hf,hpn,hfr⟩:=id ha
    have g3:decide (c.head.pred=[])=false:=by simp[hpn,hs.pr.name f hf]
    have p5:=p3 _ ha
    simp only[go_sem,h1,h3,h4,h5,h6,hB,z0a p2,Bool.not_true,Bool.not_false,ea4,ea5,ea6,g3,g1,g2,z0a p5,List.length_map]
    exact last _ _ h1 h3 h4 h6 rfl
 ·have f1:decide ((i:Int) < (s.clauses.length:Int))=false:=by rw[decide_eq_false_iff_not];omega
  simp only[go_sem,k7p,h1,h3,h4,hB,List.length_map,f1]
  refine he _ _ ?_
  simp only[go_sem,h3]
  rw[z0j rfl rfl]
  exact hT _
theorem k4d {s:Sys} (hs:SysV s):Pure Gam 44 [z1b s] (.bool true):=by
 have p0:=y4n hs
 simp only[z1b] at p0
 refine Pure.of rfl g2l rfl rfl rfl (az:=[z1b s]) rfl (by simp[idsL,z2k]) fun D B clk T hB hT=> ?_
 simp only[go_sem,u7c,hB,z1b,z0a p0,decide_true]
 rw[z0d]
 exact hT _
theorem z8o {l:List (List Nat)} {i:Nat} {h:List AObj} {t:Tip} {k:IntKind} (hi:i < l.length):z1n h 1 (.sl (z3r l) t) (.int k (i:Int))=some (.iptr [.str l[i]] 0,h):=z3j hi rfl rfl
theorem k4e {n:Int}:Pure Gam 134 [.int .i64 n, .int .i64 n] (.int .i64 0):=by
 refine Pure.of rfl w9t rfl rfl rfl rfl rfl fun D B clk T hB hT=> ?_
 simp only[go_sem,k1u,Int.lt_irrefl,decide_false]
 rw[z0j rfl rfl]
 exact hT _
theorem z9t:∀ a:List Nat,z4p a a=false
 | []=>rfl
 | c::a=>by simp[z4p,z9t a]
theorem w3b {h:List AObj} {t:ETy} {a:List Nat}:z6w h .gtr t (.str a) (.str a)=some (.bool false,h):=by simp[z6w,z4k,q4q,z9t]
theorem w3c {a:List Nat}:Pure Gam 135 [.str a, .str a] (.int .i64 0):=by
 refine Pure.of rfl w9u rfl rfl rfl rfl rfl fun D B clk T hB hT=> ?_
 simp only[go_sem,k1v,z9t,w3b]
 rw[z0j rfl rfl]
 exact hT _
theorem w3d {t:Term} {u v:Tip} (hl:t.length≤20000):Pure Gam 81 [.sl (t.map eNode) u, .sl (t.map eNode) v] (.int .i64 0):=by
 refine Pure.of rfl w9s rfl rfl rfl (az:=[.sl (t.map eNode) .no, .sl (t.map eNode) .no]) rfl (by simp[idsL,z5h]) fun D B clk T hB hT=> ?_
 have ea0:∀ (h:List AObj) (g:Nat),q1l h 5 1 (.ptr (B + 2) g 0 0) (.int .i64 0)=some (.ptr (B + 2) g 0 0,h):=fun _ _=>rfl
 have ea1:∀ (h:List AObj) (g:Nat),q1l h 5 1 (.ptr (B + 2) g 0 0) (.int .i64 1)=some (.ptr (B + 2) g 0 1,h):=fun _ _=>rfl
 have ea2:∀ (h:List AObj) (g:Nat),q1l h 5 1 (.ptr (B + 2) g 0 0) (.int .i64 2)=some (.ptr (B + 2) g 0 2,h):=fun _ _=>rfl
 have ea3:∀ (h:List AObj) (g:Nat),q1l h 5 1 (.ptr (B + 2) g 0 0) (.int .i64 3)=some (.ptr (B + 2) g 0 3,h):=fun _ _=>rfl
 have ea4:∀ (h:List AObj) (g:Nat),q1l h 5 1 (.ptr (B + 2) g 0 0) (.int .i64 4)=some (.ptr (B + 2) g 0 4,h):=fun _ _=>rfl
 simp only[go_sem,v9q,hB]
 refine z1q (fun m q=>∃ (i:Nat) (o0 o1 o2:AObj),i≤t.length∧m=t.length - i∧q.ts 0= .sl (t.map eNode) .no∧q.ts 1= .sl (t.map eNode) .no∧q.ts 5= .int .i64 (i:Int)∧q.h=D++[o0,o1,o2]) t.length ⟨0,_,_,_,by omega,rfl,rfl,rfl,rfl,rfl⟩ ?_
 rintro m ⟨ts,h',clk⟩ P ⟨i,o0,o1,o2,hi,rfl,h0,h1,h5,rfl⟩ hnx he hr
 dsimp only at h0 h1 h5
 by_cases hlt:i < t.length
 ·have f1:decide ((i:Int) < (t.length:Int))=true:=by rw[decide_eq_true_iff];omega
  have f2:IntKind.i64.wrap ((i:Int) + 1)=((i + 1:Nat):Int):=z0f (by omega) (by omega)
  have hti:t[i]? =some t[i]:=List.getElem?_eq_getElem hlt
  generalize t[i]=n at hti
  simp only[go_sem,q9z,h0,h1,h5,hB,List.length_map,f1,f2,z0y,z2p hti,z0a k4e,z0a w3c]
  refine⟨by simp[z0v,apart,z0h,z0s,z0w,AOp.isCall,hB,z5h], ?_⟩
  refine⟨by simp[z0v,apart,z0h,z0s,z0w,AOp.isCall,hB,z5h], ?_⟩
  refine z1q (fun m q=>∃ (k:Nat) (o0 o1:AObj) (g8:Nat),k≤5∧m=5 - k∧q.ts 0= .sl (t.map eNode) .no∧q.ts 1= .sl (t.map eNode) .no∧q.ts 5= .int .i64 (i:Int)∧q.ts 8= .ptr (B + 2) g8 0 0∧q.ts 9= .int .i64 (k:Int)∧q.h=D++[o0,o1, .blk g8 [.agg [.int .i64 0, .int .i64 0, .int .i64 0, .int .i64 0, .int .i64 0]] false false 0]) 5 ⟨0,_,_,_,by omega,rfl,h0,h1,h5,rfl,rfl,rfl⟩ ?_
  clear h0 h1 h5
  rintro m ⟨ts,h',clk⟩ P2 ⟨k,o0,o1,g8,hk5,rfl,r0,r1,r5,r8,r9,rfl⟩ hnx2 he2 hr2
  dsimp only at r0 r1 r5 r8 r9
  have hw:IntKind.i64.wrap ((k:Int) + 1)=((k + 1:Nat):Int):=z0f (by omega) (by omega)
  by_cases hk:k < 5
  ·have e1:decide ((k:Int) < 5)=true:=by rw[decide_eq_true_iff];omega
   have hcase:k=0∨k=1∨k=2∨k=3∨k=4:=by omega
   rcases hcase with rfl | rfl | rfl | rfl | rfl
   ·simp only[Int.cast_ofNat_Int] at r9 hw e1
    simp only[go_sem,z6x,r0,r1,r5,r8,r9,hB,e1,ea0,hw,decide_true,Bool.not_true]
    exact hnx2 (5 - 1) _ (by omega) ⟨1,_,_,g8,by omega,rfl,r0,r1,r5,r8,rfl,rfl⟩
   ·simp only[Int.cast_ofNat_Int] at r9 hw e1
    simp only[go_sem,z6x,r0,r1,r5,r8,r9,hB,e1,ea1,hw,decide_true,Bool.not_true]
    exact hnx2 (5 - 2) _ (by omega) ⟨2,_,_,g8,by omega,rfl,r0,r1,r5,r8,rfl,rfl⟩
   ·simp only[Int.cast_ofNat_Int] at r9 hw e1
    simp only[go_sem,z6x,r0,r1,r5,r8,r9,hB,e1,ea2,hw,decide_true,Bool.not_true]
    exact hnx2 (5 - 3) _ (by omega) ⟨3,_,_,g8,by omega,rfl,r0,r1,r5,r8,rfl,rfl⟩
   ·simp only[Int.cast_ofNat_Int] at r9 hw e1
    simp only[go_sem,z6x,r0,r1,r5,r8,r9,hB,e1,ea3,hw,decide_true,Bool.not_true]
    exact hnx2 (5 - 4) _ (by omega) ⟨4,_,_,g8,by omega,rfl,r0,r1,r5,r8,rfl,rfl⟩
   ·simp only[Int.cast_ofNat_Int] at r9 hw e1
    simp only[go_sem,z6x,r0,r1,r5,r8,r9,hB,e1,ea4,hw,decide_true,Bool.not_true]
    exact hnx2 (5 - 5) _ (by omega) ⟨5,_,_,g8,by omega,rfl,r0,r1,r5,r8,rfl,rfl⟩
  ·have e1:decide ((k:Int) < 5)=false:=by rw[decide_eq_false_iff_not];omega
   simp only[go_sem,z6x,r0,r1,r5,r8,r9,hB,e1]
   refine he2 _ _ ?_
   simp only[go_sem,r0,r1,r5,f2]
   exact hnx (t.length - (i + 1)) _ (by omega) ⟨i + 1,_,_,_,hlt,rfl,r0,r1,rfl,rfl⟩
 ·have f1:decide ((i:Int) < (t.length:Int))=false:=by rw[decide_eq_false_iff_not];omega
  simp only[go_sem,q9z,h0,h1,h5,hB,List.length_map,f1]
  refine he _ _ ?_
  simp only[go_sem,h0,h1,List.length_map,z0a k4e]
  rw[z0j rfl rfl]
  exact hT _
theorem y4o {t:Term} {u v:Tip} (hl:t.length≤20000):Pure Gam 41 [.sl (t.map eNode) u, .sl (t.map eNode) v] (.bool true):=by
 have p1:=w3d (u:= .no) (v:= .no) hl
 refine Pure.of rfl u7b rfl rfl rfl (az:=[.sl (t.map eNode) .no, .sl (t.map eNode) .no]) rfl (by simp[idsL,z5h]) fun D B clk T hB hT=> ?_
 simp only[go_sem,u1n,hB,z0a p1,decide_true]
 rw[z0d]
 exact hT _
theorem y4p {l:List Var} {u v:Tip} (hl:l.length≤20000):Pure Gam 40 [.sl (l.map z1h) u, .sl (l.map z1h) v] (.bool true):=by
 refine Pure.of rfl g2k rfl rfl rfl (az:=[.sl (l.map z1h) .no, .sl (l.map z1h) .no]) rfl (by simp[idsL,AV.ids,z0b z1k]) fun D B clk T hB hT=> ?_
 simp only[go_sem,u7a,hB,List.length_map,decide_true,Bool.not_true]
 refine z1q (fun m q=>∃ (i:Nat),i≤l.length∧m=l.length - i∧q.ts 0= .sl (l.map z1h) .no∧q.ts 1= .sl (l.map z1h) .no∧q.ts 5= .int .i64 (i:Int)∧q.h=D) l.length ⟨0,by omega,rfl,rfl,rfl,rfl,by simp⟩ ?_
 rintro m ⟨ts,h',clk⟩ P ⟨i,hi,rfl,h0,h1,h5,rfl⟩ hnx he hr
 dsimp only at h0 h1 h5
 by_cases hlt:i < l.length
 ·have f1:decide ((i:Int) < (l.length:Int))=true:=by rw[decide_eq_true_iff];omega
  have f2:IntKind.i64.wrap ((i:Int) + 1)=((i + 1:Nat):Int):=z0f (by omega) (by omega)
  have e3:∀ (h:List AObj) (x:List Nat) (y:Int),z6w h .neq (.agg [.str, .int]) (.agg [.str x, .int .i64 y]) (.agg [.str x, .int .i64 y])=some (.bool false,h):=fun h x y=>by simp[z6w,z4k,AV.eqv,eqL,AV.eq1]
  simp only[go_sem,v9p,h0,h1,h5,hB,List.length_map,f1,f2,z9a hlt,nat,e3,decide_true,Bool.not_true]
  exact hnx (l.length - (i + 1)) _ (by omega) ⟨i + 1,hlt,rfl,h0,h1,rfl,rfl⟩
 ·have f1:decide ((i:Int) < (l.length:Int))=false:=by rw[decide_eq_false_iff_not];omega
  simp only[go_sem,v9p,h0,h1,h5,hB,List.length_map,f1]
  refine he _ _ ?_
  simp only[go_sem,]
  rw[z0d]
  exact hT _
structure CmpC (c:Clause):Prop where
 vars:c.vars.length≤20000
 body:c.body.length≤20000
 guard:c.guard.length≤20000
 head:c.head.args.length≤20000∧∀ t∈c.head.args,t.length≤20000
 atoms:∀ a∈c.body,a.args.length≤20000∧∀ t∈a.args,t.length≤20000
theorem z2y {base:Nat} {b:ACode} {ks:List Kf} {s:St} {Q:Post} (n:Nat) (hn:n≤2 ^ 62) (J:Nat→St→Prop) (h0:J 0 s)
  (hstep:∀ i,i < n→decide ((i:Int) < (n:Int))=true→IntKind.i64.wrap ((i:Int) + 1)=((i + 1:Nat):Int)→∀ ts h clk (P:Post),J i ⟨ts,h,clk⟩→(∀ s',J (i + 1) s'→P .norm s')→(∀ k s',K Gam base (.exit k) ks s' Q→P (.exit k) s')→(∀ s',K Gam base .ret ks s' Q→P .ret s')→K Gam base b [] ⟨ts,h,clk⟩ P)
  (hend:decide ((n:Int) < (n:Int))=false→∀ ts h clk (P:Post),J n ⟨ts,h,clk⟩→(∀ k s',K Gam base (.exit k) ks s' Q→P (.exit k) s')→(∀ s',K Gam base .ret ks s' Q→P .ret s')→K Gam base b [] ⟨ts,h,clk⟩ P):K Gam base (.loop b) ks s Q:=by
 refine z1q (fun m q=>∃ i:Nat,i≤n∧m=n - i∧J i q) n ⟨0,by omega,rfl,h0⟩ ?_
 rintro m ⟨ts,h,clk⟩ P ⟨i,hi,rfl,hj⟩ hnx he hr
 by_cases hlt:i < n
 ·exact hstep i hlt (by rw[decide_eq_true_iff];omega) (z0f (by omega) (by omega)) ts h clk P hj (fun s' h=>hnx (n - (i + 1)) s' (by omega) ⟨i + 1,hlt,rfl,h⟩) he hr
 ·obtain rfl:i=n:=by omega
  exact hend (by rw[decide_eq_false_iff_not];omega) ts h clk P hj he hr
theorem q2p {l:List App} {i:Nat} {h:List AObj} {t:Tip} {k:IntKind} (hi:i < l.length):z1n h 2 (.sl (l.map z1p) t) (.int k (i:Int))=some (.iptr [.str l[i].pred, .sl (l[i].args.map z0i) .no] 0,h):=z3j hi rfl rfl
theorem x9r {x:Tf}:decide ((x.drops.length:Int)=0)=decide (x.drops=[]):=by
 cases x.drops with
 | nil=>rfl
 | cons a l=>simp;omega
section
open Sh
def eqC (e:Nat) (ld:Option Nat) (ty:ETy):ACode:=(.seq (.region 1 [N 14 (.binOp .lss (.one .int) (.tmp 13) (.tmp 12))] []) (.seq (.cond (.tmp 14) .skip (.exit 0)) (.seq (.block 1 (.seq (.region 2 [M 15 13,M 5 15] []) (.seq (.region 9 [M 16 0,M 17 5,N 18 (.indexAddr none e (.tmp 16) (.tmp 17)),N 19 (.load ld (.tmp 18)),M 20 1,M 21 5,N 22 (.indexAddr none e (.tmp 20) (.tmp 21)),N 23 (.load ld (.tmp 22)),N 24 (.binOp .neq ty (.tmp 19) (.tmp 23))] []) (.cond (.tmp 24) (.seq (.region 1 [N 4 (.move (.const (.bool false)))] []) .ret) .skip)))) (.region 2 [N 25 (.binOp .add (.one .int) (.tmp 13) (I 1)),M 13 25] []))))
def eqF (e:Nat) (ld:Option Nat) (ty:ETy):AFun:=
 {ntmps:=26,nslots:=0,results:=[.tmp 4],byref:=[],owned:=false,
  body:=(.seq (.region 1 [N 4 (.move (.const (.bool false)))] []) (.seq (.seq (.region 5 [M 6 0,N 7 (.len .sl (.tmp 6)),M 8 1,N 9 (.len .sl (.tmp 8)),N 10 (.binOp .neq (.one .int) (.tmp 7) (.tmp 9))] []) (.cond (.tmp 10) (.seq (.region 1 [N 4 (.move (.const (.bool false)))] []) .ret) .skip)) (.seq (.seq (.region 3 [M 11 0,N 12 (.len .sl (.tmp 11)),N 13 (.move (I 0))] []) (.block 0 (.loop (eqC e ld ty)))) (.seq (.region 1 [N 4 (.move (.const (.bool true)))] []) .ret))))}
theorem u5o:Gam.fn 64=some (eqF 1 none (.one .int)):=by kernel_rfl
theorem u5p:Gam.fn 210=some (eqF 2 (some 2) (.agg [.str, .int])):=by kernel_rfl
theorem u5q:Gam.fn 211=some (eqF 5 (some 5) (.agg [.int, .int, .str, .str, .int])):=by kernel_rfl
theorem u5r:Gam.fn 249=some w9k:=by kernel_rfl
theorem q5x {α:Type} {enc:α→AV} {e i:Nat} {xs:List α} {t:Tip} {k:IntKind} {h:List AObj} (hE:∀ x,(enc x).cells.length=e) (hi:i < xs.length):z1n h e (.sl (xs.map enc) t) (.int k (i:Int))=some (.iptr (enc xs[i]).cells 0,h):=z5p (by simp[hi]) (hE _)
theorem z5r {a b:Nat}:decide ((a:Int)=(b:Int))=decide (a=b):=by
 by_cases h:a=b
 ·simp[h]
 ·rw[decide_eq_false h,decide_eq_false_iff_not];omega
theorem j8t {α:Type} {xs ys:List α} {i:Nat} (hx:i < xs.length) (hy:i < ys.length) (h:xs.take i=ys.take i) (h1:xs[i]=ys[i]):xs.take (i + 1)=ys.take (i + 1):=by
 rw[List.take_succ_eq_append_getElem hx,List.take_succ_eq_append_getElem hy,h,h1]
theorem j2p {α:Type} [DecidableEq α] {enc:α→AV} {f e:Nat} {ld:Option Nat} {ty:ETy} {xs ys:List α} {u v:Tip} (hext:Gam.ext f=none) (hfn:Gam.fn f=some (eqF e ld ty)) (hE:∀ x,(enc x).cells.length=e) (hld:∀ x h,z8j h ld (.iptr (enc x).cells 0)=some (enc x,h)) (hbv:∀ x y h,z6w h .neq ty (enc x) (enc y)=some (.bool (!decide (x=y)),h)) (hid:∀ x,(enc x).ids=[]) (hl:xs.length≤2 ^ 20) (hl2:ys.length≤2 ^ 20):
  Pure Gam f [.sl (xs.map enc) u, .sl (ys.map enc) v] (.bool (decide (xs=ys))):=by
 refine Pure.of hext hfn rfl rfl rfl (az:=[.sl (xs.map enc) .no, .sl (ys.map enc) .no]) rfl (by simp[idsL,AV.ids,z0b hid]) fun D B clk T hB hT=> ?_
 cases hlen:decide (xs.length=ys.length) with
 | true=>
   have hlen':xs.length=ys.length:=of_decide_eq_true hlen
   simp only[go_sem,eqF,hB,List.length_map,z5r,hlen,Bool.not_true]
   refine z2y xs.length (by omega) (fun i q=>xs.take i=ys.take i∧q.ts 0= .sl (xs.map enc) .no∧q.ts 1= .sl (ys.map enc) .no∧q.ts 12= .int .i64 (xs.length:Int)∧q.ts 13= .int .i64 (i:Int)) ⟨by simp,rfl,rfl,rfl,rfl⟩ ?_ ?_
   ·rintro i hlt f1 f2 ts h clk P ⟨he0,q0,q1,q12,q13⟩ hnx he hr
    dsimp only at q0 q1 q12 q13
    have hlt2:i < ys.length:=by omega
    have hx:=fun h=>q5x (enc:=enc) (t:= .no) (k:= .i64) (h:=h) hE hlt
    have hy:=fun h=>q5x (enc:=enc) (t:= .no) (k:= .i64) (h:=h) hE hlt2
    cases hc:decide (xs[i]=ys[i]) with
    | true=>
      simp only[go_sem,eqC,q0,q1,q12,q13,f1,f2,hx,hy,hld,hbv,hc,Bool.not_true]
      exact hnx _ ⟨j8t hlt hlt2 he0 (of_decide_eq_true hc),q0,q1,q12,rfl⟩
    | false=>
      simp only[go_sem,eqC,q0,q1,q12,q13,f1,f2,hx,hy,hld,hbv,hc,Bool.not_false]
      refine hr _ ?_
      rw[decide_eq_false fun e=>of_decide_eq_false hc (by subst e;rfl)] at hT
      simp only[go_sem,]
      rw[z0d]
      exact hT _
   ·rintro f1 ts h clk P ⟨he0,q0,q1,q12,q13⟩ he hr
    dsimp only at q0 q1 q12 q13
    simp only[go_sem,eqC,q0,q1,q12,q13,f1]
    refine he _ _ ?_
    rw[List.take_length,hlen',List.take_length] at he0
    rw[decide_eq_true he0] at hT
    simp only[go_sem,]
    rw[z0d]
    exact hT _
 | false=>
   simp only[go_sem,eqF,hB,List.length_map,z5r,hlen,Bool.not_false]
   rw[decide_eq_false fun e=>of_decide_eq_false hlen (by rw[e])] at hT
   rw[z0d]
   exact hT _
theorem w3e {xs ys:List Nat} {u v:Tip} (hl:xs.length≤2 ^ 20) (hl2:ys.length≤2 ^ 20):Pure Gam 64 [.sl (xs.map nat) u, .sl (ys.map nat) v] (.bool (decide (xs=ys))):=
 j2p rfl u5o (fun _=>rfl) (fun _ _=>rfl) (fun x y h=>by simp only[nat,v2i,z5r]) (fun _=>rfl) hl hl2
theorem w3f {xs ys:List Var} {u v:Tip} (hl:xs.length≤2 ^ 20) (hl2:ys.length≤2 ^ 20):Pure Gam 210 [.sl (xs.map z1h) u, .sl (ys.map z1h) v] (.bool (decide (xs=ys))):=
 j2p rfl u5p (fun _=>rfl) (fun _ _=>rfl) (fun x y h=>by
  obtain⟨a,b⟩:=x
  obtain⟨c,d⟩:=y
  by_cases h1:a=c <;> by_cases h2:b=d <;> simp[z1h,nat,z6w,z4k,AV.eqv,eqL,AV.eq1,h1,h2,Int.ofNat_inj]) (fun _=>rfl) hl hl2
theorem k4f {xs ys:Term} {u v:Tip} (hl:xs.length≤2 ^ 20) (hl2:ys.length≤2 ^ 20):Pure Gam 211 [.sl (xs.map eNode) u, .sl (ys.map eNode) v] (.bool (decide (xs=ys))):=
 j2p rfl u5q (fun _=>rfl) (fun _ _=>rfl) (fun x y h=>by
  obtain⟨a,b,c,d,e⟩:=x
  obtain⟨a',b',c',d',e'⟩:=y
  by_cases h1:a=a' <;> by_cases h2:b=b' <;> by_cases h3:c=c' <;> by_cases h4:d=d' <;> by_cases h5:e=e' <;> simp[eNode,nat,z6w,z4k,AV.eqv,eqL,AV.eq1,h1,h2,h3,h4,h5,Int.ofNat_inj]) (fun _=>rfl) hl hl2
end
end Go.Proofs.YtdfepmffiampgaaGreatDoor.Am
