/- Walking: guards and arguments Walking: atoms and clauses are generated Walking: clauses are generated Walking: clauses are generated Walking: systems are generated Walking: systems are generated Walki -/
import Derived.Test.YtahdahokpjigiaaGreatDoorM27
open Nat renaming reduceBEq → z0,reduceAdd → z1,reduceLeDiff → z2,reduceSub → z3
set_option linter.all false
namespace Go.Proofs.YtahdahokpjigiaaGreatDoor.Am
open Go
set_option maxRecDepth 100000
section
variable {l:List Int} {V:List Var}
def j0f (l:List Int) (V:List Var) (d:Nat):Prop:=GenOk l 108 [nat d, .sl (V.map z1b) .no] (q9i V 1 (d + 8) (400 * 2 ^ d - 1))
theorem k0y {s k:Nat} (hs:s=2∨s=3) (h:k < 10):y5y s [48 + k]:=by
 rcases hs with rfl | rfl
 ·exact .inl ⟨rfl,x4f h⟩
 ·exact .inr ⟨rfl, .inl (x4f h)⟩
theorem w6n {d:Nat} (hl:q7q l) (hV:V.length≤400) (hd:d≤6) (hF:q4w l V 2) (hG:∀ e,d=e + 1→j0f l V e):j0f l V d:=by
 have h2d:1≤2 ^ d:=Nat.pos_of_ne_zero (by simp)
 have hF2:11 * 6 ^ 2=396:=rfl
 refine GenOk.of rfl u0x rfl rfl rfl (az:=[nat d, .sl (V.map z1b) .no]) rfl (by simp[idsL,z3c,z5s]) fun D B p g i clk T hB hs hD hi hR=> ?_
 simp only[go_sem,u0w,hB,nat]
 refine z0o (z3h hl (by decide) (by decide)) hB hs hD hi ?_
 rintro v D2 i2 ⟨r,rfl,hr1,hr2⟩ hB2 hD2 hi2
 obtain⟨q,rfl⟩:∃ k:Nat,r=k:=⟨r.toNat,by omega⟩
 have hb0:(decide ((d:Int)≤0)=true∧d=0)∨(decide ((d:Int)≤0)=false∧∃ e,d=e + 1):=by
  rcases Nat.eq_zero_or_pos d with rfl | h
  ·exact .inl ⟨rfl,rfl⟩
  ·exact .inr ⟨by rw[decide_eq_false_iff_not];omega,d - 1,by omega⟩
 have F0:∀ (D:List AObj) (i:Nat) (L:List AObj),D.length=B→D[p]? =some (z5c g l i)→i≤l.length→T (z0l [⟨1,0,[],[],0⟩]) (D++L):=fun D i L h1 h2 h3=>hR _ _ i (by rw[z0u h1 hs];exact h2) h3 ⟨_,rfl,(GT.leaf (n:=bare 1 0) (.bool (.inl rfl)) rfl (by omega) (by omega)).up (by omega) (by omega)⟩
 obtain rfl | rfl | rfl | hq | rfl:q=0∨q=1∨q=2∨(q=3∨q=4)∨q=5:=by omega
 ·rcases hb0 with ⟨hb0,_⟩ | ⟨hb0,_⟩
  all_goals
   simp only[go_sem,hb0,Int.reduceEq,decide_true,decide_false,Bool.not_true,Bool.not_false]
   rw[z0a q9h]
   simp only[go_sem,if_true]
   rw[z1a]
   exact F0 D2 i2 _ hB2 hD2 hi2
 ·rcases hb0 with ⟨hb0,_⟩ | ⟨hb0,_⟩
  all_goals
   simp only[go_sem,hb0,Int.reduceEq,decide_true,decide_false,Bool.not_true,Bool.not_false]
   refine z0o (q1x (s:=2) hl (by omega) (by omega) hV) hB2 hs hD2 hi2 ?_
   rintro v D3 i3 ⟨t1,rfl,ht1⟩ hB3 hD3 hi3
   have l1:=ht1.2.1
   simp only[go_sem,]
   refine z0o (z3h hl (by decide) (by decide)) hB3 hs hD3 hi3 ?_
   rintro v D4 i4 ⟨r4,rfl,hr3,hr4⟩ hB4 hD4 hi4
   obtain⟨n,rfl⟩:∃ k:Nat,r4=k:=⟨r4.toNat,by omega⟩
   simp only[go_sem,]
   rw[z0a (q0j (by omega) (by omega)),z6a (by omega)]
   simp only[go_sem,]
   have hp:Pure Gam 173 [.int .i64 2, .str [48 + n]] _:=x4e (s:=2) (a:=[48 + n])
   rw[z0a hp]
   simp only[go_sem,z3e]
   rw[z0a (op2 (o:=12) (i:=12) rfl (by omega) (by simp))]
   simp only[go_sem,]
   rw[z1a]
   exact hR _ _ i4 (by rw[z0u hB4 hs];exact hD4) hi4 ⟨_,rfl,(GT.op2 ht1 ((GT.num (k0y (s:=2) (k:=n) (.inl rfl) (by omega))).up (d':=3) (m':=1) (by omega) (by omega)) (.cmp (.inl rfl) (.inl rfl)) (by omega) (by omega)).up (by omega) (by omega)⟩
 ·rcases hb0 with ⟨hb0,_⟩ | ⟨hb0,_⟩
  all_goals
   simp only[go_sem,hb0,Int.reduceEq,decide_true,decide_false,Bool.not_true,Bool.not_false]
   refine z0o (q1x (s:=2) hl (by omega) (by omega) hV) hB2 hs hD2 hi2 ?_
   rintro v D3 i3 ⟨t1,rfl,ht1⟩ hB3 hD3 hi3
   have l1:=ht1.2.1
   simp only[go_sem,]
   refine z0o (q1x (s:=2) hl (by omega) (by omega) hV) hB3 hs hD3 hi3 ?_
   rintro v D4 i4 ⟨t2,rfl,ht2⟩ hB4 hD4 hi4
   have l2:=ht2.2.1
   simp only[go_sem,]
   refine z0o (z3h hl (by decide) (by decide)) hB4 hs hD4 hi4 ?_
   rintro v D5 i5 ⟨r4,rfl,hr3,hr4⟩ hB5 hD5 hi5
   obtain⟨n,rfl⟩:∃ k:Nat,r4=k:=⟨r4.toNat,by omega⟩
   simp only[go_sem,]
   rw[z0a (q0j (by omega) (by omega)),z6a (by omega)]
   simp only[go_sem,]
   have hp:Pure Gam 173 [.int .i64 2, .str [48 + n]] _:=x4e (s:=2) (a:=[48 + n])
   rw[z0a hp]
   simp only[go_sem,z3e]
   have hadd:=GT.op2 (o:=14) ht2 ((GT.num (V:=V) (k0y (s:=2) (k:=n) (.inl rfl) (by omega))).up (d':=3) (m':=1) (by omega) (by omega)) (.add (k:=2) (by omega) (.inl rfl)) (by omega) (by omega)
   rw[z0a (op2 (o:=14) (i:=14) rfl (by omega) (by simp))]
   simp only[go_sem,z3e]
   rw[z0a (op2 (o:=11) (i:=11) rfl (by omega) (by have:=hadd.2.1;omega))]
   simp only[go_sem,]
   rw[z1a]
   exact hR _ _ i5 (by rw[z0u hB5 hs];exact hD5) hi5 ⟨_,rfl,(GT.op2 (ht1.up (d':=4) (m':=5) (by omega) (by omega)) hadd (.eq (by omega) (by omega)) (by omega) (by omega)).up (by omega) (by omega)⟩
 ·rcases hb0 with ⟨hb0,hd0⟩ | ⟨hb0,e,rfl⟩
  ·rcases hq with rfl | rfl
   all_goals
    simp only[go_sem,hb0,Int.reduceEq,decide_true,decide_false,Bool.not_true,Bool.not_false]
    rw[z0a q9h]
    simp only[go_sem,if_true]
    rw[z1a]
    exact F0 D2 i2 _ hB2 hD2 hi2
  ·have em:=z5j (e:=e) (by omega)
   have hg:=hG e rfl
   have hpow:2 ^ (e + 1)=2 * 2 ^ e:=by rw[Nat.pow_succ,Nat.mul_comm]
   have h2e:2 ^ e≤2 ^ 6:=Nat.pow_le_pow_right (by omega) (by omega)
   rcases hq with rfl | rfl
   ·simp only[go_sem,hb0,Int.reduceEq,decide_true,decide_false,Bool.not_true,Bool.not_false,em]
    refine z0o hg hB2 hs hD2 hi2 ?_
    rintro v D3 i3 ⟨t1,rfl,ht1⟩ hB3 hD3 hi3
    simp only[go_sem,em]
    refine z0o hg hB3 hs hD3 hi3 ?_
    rintro v D4 i4 ⟨t2,rfl,ht2⟩ hB4 hD4 hi4
    have l1:=ht1.2.1
    have l2:=ht2.2.1
    simp only[go_sem,z3e]
    rw[z0a (op2 (o:=7) (i:=7) rfl (by omega) (by omega))]
    simp only[go_sem,]
    rw[z1a]
    exact hR _ _ i4 (by rw[z0u hB4 hs];exact hD4) hi4 ⟨_,rfl,(GT.op2 ht1 ht2 (.andor (k:=2) (.inl rfl)) (by omega) (by omega)).up (by omega) (by omega)⟩
   ·simp only[go_sem,hb0,Int.reduceEq,decide_true,decide_false,Bool.not_true,Bool.not_false,em]
    refine z0o hg hB2 hs hD2 hi2 ?_
    rintro v D3 i3 ⟨t1,rfl,ht1⟩ hB3 hD3 hi3
    simp only[go_sem,em]
    refine z0o hg hB3 hs hD3 hi3 ?_
    rintro v D4 i4 ⟨t2,rfl,ht2⟩ hB4 hD4 hi4
    have l1:=ht1.2.1
    have l2:=ht2.2.1
    simp only[go_sem,z3e]
    rw[z0a (op2 (o:=8) (i:=8) rfl (by omega) (by omega))]
    simp only[go_sem,]
    rw[z1a]
    exact hR _ _ i4 (by rw[z0u hB4 hs];exact hD4) hi4 ⟨_,rfl,(GT.op2 ht1 ht2 (.andor (k:=2) (.inr rfl)) (by omega) (by omega)).up (by omega) (by omega)⟩
 ·rcases hb0 with ⟨hb0,_⟩ | ⟨hb0,_⟩
  all_goals
   simp only[go_sem,hb0,Int.reduceEq,decide_true,decide_false,Bool.not_true,Bool.not_false]
   refine z0o hF hB2 hs hD2 hi2 ?_
   rintro v D3 i3 ⟨t1,rfl,ht1⟩ hB3 hD3 hi3
   simp only[go_sem,]
   rw[z1a]
   exact hR _ _ i3 (by rw[z0u hB3 hs];exact hD3) hi3 ⟨_,rfl,ht1.up (by omega) (by omega)⟩
theorem x7k (hl:q7q l) (hV:V.length≤400) (hN:x1d l):∀ d,d≤6→j0f l V d
 | 0,_=>w6n hl hV (by omega) (q1y hl hV hN 2 (by omega)).2 fun e h=>by omega
 | d + 1,hd=>w6n hl hV hd (q1y hl hV hN 2 (by omega)).2 fun e h=>by
   obtain rfl:e=d:=by omega
   exact x7k hl hV hN e (by omega)
theorem w6o {s:Nat} {u:Tip} (hl:q7q l) (hV:V.length≤400) (hN:x1d l) (h1:1≤s) (h2:s≤4):GenOk l 171 [nat s, .sl (V.map z1b) u] (q9i V s 5 66):=by
 have hT:=(q1y hl hV hN 1 (by omega)).1 s h1 h2
 have hTB:=w6i (s:=s) (e:=1)
 refine GenOk.of rfl y5h rfl rfl rfl (az:=[nat s, .sl (V.map z1b) .no]) rfl (by simp[idsL,z3c,z5s]) fun D B p g i clk T hB hs hD hi hR=> ?_
 simp only[go_sem,w5o,hB,nat]
 refine z0o (z3h hl (by decide) (by decide)) hB hs hD hi ?_
 rintro v D2 i2 ⟨r,rfl,hr1,hr2⟩ hB2 hD2 hi2
 simp only[go_sem,]
 refine z8c (fun hc=> ?_) (fun hc=> ?_)
 ·simp only[go_sem,]
  refine z0o hT hB2 hs hD2 hi2 ?_
  rintro v D3 i3 ⟨t1,rfl,ht1⟩ hB3 hD3 hi3
  simp only[go_sem,]
  rw[z1a]
  exact hR _ _ i3 (by rw[z0u hB3 hs];exact hD3) hi3 ⟨_,rfl,ht1.up (by omega) (by omega)⟩
 ·simp only[go_sem,]
  refine z0o (q1x hl h1 h2 hV) hB2 hs hD2 hi2 ?_
  rintro v D3 i3 ⟨t1,rfl,ht1⟩ hB3 hD3 hi3
  simp only[go_sem,]
  rw[z1a]
  exact hR _ _ i3 (by rw[z0u hB3 hs];exact hD3) hi3 ⟨_,rfl,ht1.up (by omega) (by omega)⟩
end
section
variable {l:List Int} {V:List Var} {ps:List Func}
def x4i (ps:List Func):Prop:=0 < ps.length∧ps.length≤5∧∀ f∈ps,f.args.length≤3∧∀ s∈f.args,1≤s∧s≤4
def AppOk (ps:List Func) (V:List Var) (a:App):Prop:=∃ f∈ps,a.pred=f.name∧a.args.length=f.args.length∧∀ q∈f.args.zip a.args,GT V q.1 5 66 q.2
theorem z8e {l:List Func} {i:Nat} {h:List AObj} {t:Tip} {k:IntKind} (hi:i < l.length):z1m h 3 (.sl (l.map z0q) t) (.int k (i:Int))=some (.iptr [.str l[i].name, .sl (l[i].args.map nat) .no,nat l[i].result] 0,h):=z2f hi rfl rfl
theorem q9k {l:List Nat} {i:Nat} {h:List AObj} {t:Tip} {k:IntKind} (hi:i < l.length):z1m h 1 (.sl (l.map nat) t) (.int k (i:Int))=some (.iptr [nat l[i]] 0,h):=z2f hi rfl rfl
theorem k0z {ps:List Func}:(AV.sl (ps.map z0q) .no).ids=[]:=k0k z2j
theorem j3d {α β:Type} {y:β}:∀ {ys:List β} {xs:List α} (h:ys.length < xs.length),xs.zip (ys++[y])=xs.zip ys++[(xs[ys.length],y)]
 | [],x::xs,_=>by simp
 | z::ys,x::xs,h=>by
   have:=j3d (y:=y) (ys:=ys) (xs:=xs) (by simpa using h)
   simp[this]
theorem w6p {u w:Tip} (hl:q7q l) (hV:V.length≤400) (hN:x1d l) (hP:x4i ps):GenOk l 107 [.sl (ps.map z0q) u, .sl (V.map z1b) w] (fun v=>∃ a,v=z3x a∧AppOk ps V a):=by
 obtain⟨hp0,hp5,hpf⟩:=hP
 refine GenOk.of rfl u5c rfl rfl rfl (az:=[.sl (ps.map z0q) .no, .sl (V.map z1b) .no]) rfl (by simp[idsL,k0z,z5s]) fun D B p g i clk T hB hs hD hi hR=> ?_
 simp only[go_sem,u0v,hB,List.length_map]
 refine z0o (z3h hl (by omega) (by omega)) hB hs hD hi ?_
 rintro v D2 i2 ⟨r,rfl,hr1,hr2⟩ hB2 hD2 hi2
 obtain⟨k,rfl⟩:∃ k:Nat,r=k:=⟨r.toNat,by omega⟩
 have hk:k < ps.length:=by omega
 have hf:=hpf ps[k] (List.getElem_mem hk)
 generalize hfk:ps[k]=f at hf
 have hmem:f∈ps:=hfk ▸ List.getElem_mem hk
 simp only[go_sem,hB2,z8e hk,hfk,nat]
 refine z0y (fun m q=>∃ (j:Nat) (acc:List Term) (t:Tip) (D:List AObj) (i g0 g1 g2:Nat) (o3 o4:AObj),j≤f.args.length∧m=f.args.length - j∧acc.length=j∧(∀ q∈f.args.zip acc,GT V q.1 5 66 q.2)∧D.length=B∧D[p]? =some (z5c g l i)∧i≤l.length∧
  q.ts 0= .ptr p g 0 0∧q.ts 2= .sl (V.map z1b) .no∧q.ts 6= .ptr (B + 0) g0 0 0∧q.ts 7= .ptr (B + 1) g1 0 0∧q.ts 8= .ptr (B + 2) g2 0 0∧q.ts 9= .int .i64 j∧
  q.h=D++[.blk g0 [.agg [.str [], .sl [] .nil]] false false 0, .blk g1 [.agg [.str f.name, .sl (f.args.map nat) .no, .int .i64 (f.result:Int)]] false false 0, .blk g2 [.agg [.str f.name, .sl (acc.map z0l) t]] false false 0,o3,o4]∧z8k B 4 o4 t 1) f.args.length ?_ ?_
 ·exact⟨0,[], .nil,D2,i2,_,_,_,_,_,by simp,rfl,rfl,by simp,hB2,hD2,hi2,rfl,rfl,rfl,rfl,rfl,rfl,rfl, .inl rfl⟩
 clear hB2 hD2 hi2 hB hD hi
 rintro m ⟨ts,h,clk⟩ P ⟨j,acc,t,D,i,g0,g1,g2,o3,o4,hj,rfl,hal,hacc,hB,hD,hi,q0,q2,q6,q7,q8,q9,rfl,ht⟩ hn he hr
 dsimp only at q0 q2 q6 q7 q8 q9
 simp only[go_sem,q0,q2,q6,q7,q8,q9,hB,List.length_map,v5l]
 refine z8c (fun hb=> ?_) (fun hb=> ?_)
 ·have hlt:j < f.args.length:=by simp at hb;omega
  have hsj:=hf.2 f.args[j] (List.getElem_mem hlt)
  have e1:IntKind.i64.wrap ((j:Int) + 1)=((j + 1:Nat):Int):=z0d (by omega) (by omega)
  simp only[go_sem,q0,q2,q6,q7,q8,q9,hB,z1i,q9k hlt]
  refine z0o (w6o hl hV hN hsj.1 hsj.2) hB hs hD hi ?_
  rintro v D1 i1 ⟨t1,rfl,ht1⟩ hB1 hD1 hi1
  simp only[go_sem,q0,q2,q6,q7,q8,q9,hB1,z3e]
  rw[show [z0l t1]=[t1].map z0l from rfl,z0j hB1 rfl ht z3s z3s (by simp only[List.length_map,List.length_singleton];omega)]
  have happ:acc.map z0l++[z0l t1]=(acc++[t1]).map z0l:=by simp
  simp only[go_sem,q0,q2,q6,q7,q8,q9,hB1,e1,happ]
  refine⟨by simp[z1f,apart,z0i,z1d,z1h,AOp.isCall,hB,z3c,z0c];omega, ?_⟩
  refine hn (f.args.length - (j + 1)) _ (by omega) ⟨j + 1,acc++[t1],_,D1,i1,g0,g1,g2,_,_,hlt,rfl,by simp[hal], ?_,hB1,hD1,hi1,q0,q2,q6,q7,q8,rfl,rfl, .inr (.inr ⟨_,rfl,rfl⟩)⟩
  subst hal
  rw[j3d hlt]
  intro q hq
  rw[List.mem_append,List.mem_singleton] at hq
  rcases hq with hq | rfl
  ·exact hacc q hq
  ·exact ht1
 ·have hjf:j=f.args.length:=by simp at hb;omega
  simp only[go_sem,q0,q2,q6,q7,q8,q9,hB]
  refine he _ _ ?_
  simp only[go_sem,q0,q2,q6,q7,q8,q9,hB]
  have hid:(AV.agg [.str f.name, .sl (acc.map z0l) t]).cv.ids=[]:=z4w ⟨f.name,acc⟩
  rw[z2x rfl hid]
  exact hR _ _ i (by rw[z0u hB hs];exact hD) hi ⟨⟨f.name,acc⟩,rfl,f,hmem,rfl,by rw[hal,hjf],hacc⟩
end
section
variable {l:List Int} {V:List Var} {ps:List Func}
theorem GenOk.conv {f:Nat} {args args':List AV} {af:AFun} {R:AV→Prop} (h:GenOk l f args R) (hext:Gam.ext f=none) (hfn:Gam.fn f=some af) (hb:af.byref=[]) (ho:z4k args=[]) (ho':z4k args'=[]) (he:cvL args'=cvL args):GenOk l f args' R:=by
 have hob:∀ s g,z4k (.ptr s g 0 0::args)=[]:=fun s g=>by simp[z4k,AV.obs,ho]
 have hob':∀ s g,z4k (.ptr s g 0 0::args')=[]:=fun s g=>by simp[z4k,AV.obs,ho']
 have hcv:∀ s g,cvL (.ptr s g 0 0::args')=cvL (.ptr s g 0 0::args):=fun s g=>by simp[cvL,he]
 have key:∀ k s g h clk,z5b Gam k f (.ptr s g 0 0::args') h clk=z5b Gam k f (.ptr s g 0 0::args) h clk:=by
  intro k s g h clk
  unfold z5b z0k
  simp only[hext,hfn,hb,z1j (hob s g),z1j (hob' s g),z4n (hob s g),z4n (hob' s g),hcv s g]
 have kf:∀ s g h,z0v Gam f (.ptr s g 0 0::args') h=z0v Gam f (.ptr s g 0 0::args) h:=by
  intro s g h
  unfold z0v
  simp only[hext,hfn,hb,z1j (hob s g),z1j (hob' s g),hob s g,hob' s g,hcv s g]
 intro hh s g i clk Q h1 h2 h3
 obtain⟨⟨k,v,h',c,h4,h5⟩,h6⟩:=h hh s g i clk Q h1 h2 h3
 exact⟨⟨k,v,h',c,by rw[key];exact h4,h5⟩,by rw[kf];exact h6⟩
def z2h:List Var:=[⟨[120],2⟩,⟨[121],2⟩,⟨[122],3⟩,⟨[119],3⟩,⟨[112],1⟩,⟨[98],1⟩,⟨[97],4⟩,⟨[99],4⟩]
theorem w6q:Pure Gam 106 [] (.sl (z2h.map z1b) .no):=Pure.tab (tab:=v2g) rfl rfl rfl
def w6r (ps:List Func) (V:List Var) (a:App):Prop:=(a.pred=[]∧a.args=[])∨AppOk ps V a
def ClauseOk (ps:List Func) (c:Clause):Prop:=List.Sublist c.vars z2h∧c.body.length≤2∧(∀ a∈c.body,AppOk ps c.vars a)∧GT c.vars 1 11 3199 c.guard∧w6r ps c.vars c.head
theorem v6j {B p g i clk g0:Nat} {D:List AObj} {ts:Tmps} {o b c d x y:AObj} {ks:List Kf} {Q:Post} (hl:q7q l) (hB:D.length=B) (hs:p < B) (hD:D[p]? =some (z5c g l i)) (hi:i≤l.length) {q:Bool}
  (h0:ts 0= .ptr p g 0 0) (h1:ts 1= .sl (ps.map z0q) .no) (h2:ts 2= .bool q) (h6:ts 6= .ptr (B + 0) g0 0 0) (h7:ts 7= .sl (z2h.map z1b) .no) (h8:ts 8= .sl [] .nil) (h9:ts 9= .int .i64 0)
  (hQ:∀ (acc:List Var) (t:Tip) (ts':Tmps) (D':List AObj) (i':Nat) (b c d x y:AObj) (clk':Nat),acc.Sublist z2h→D'.length=B→D'[p]? =some (z5c g l i')→i'≤l.length→ts' 0= .ptr p g 0 0→ts' 1= .sl (ps.map z0q) .no→ts' 2= .bool q→ts' 6= .ptr (B + 0) g0 0 0→ts' 8= .sl (acc.map z1b) t→K Gam B (.exit 0) ks ⟨ts',D'++[o,b,c,d,x,y],clk'⟩ Q):
  K Gam B (.loop k5n) ks ⟨ts,D++[o,b,c,d,x,y],clk⟩ Q:=by
 refine z0y (fun m s=>∃ (j:Nat) (acc:List Var) (t:Tip) (D:List AObj) (i:Nat) (b c d x y:AObj),j≤8∧m=8 - j∧acc.Sublist (z2h.take j)∧D.length=B∧D[p]? =some (z5c g l i)∧i≤l.length∧s.ts 0= .ptr p g 0 0∧s.ts 1= .sl (ps.map z0q) .no∧s.ts 2= .bool q∧s.ts 6= .ptr (B + 0) g0 0 0∧s.ts 7= .sl (z2h.map z1b) .no∧s.ts 8= .sl (acc.map z1b) t∧s.ts 9= .int .i64 (j:Int)∧s.h=D++[o,b,c,d,x,y]∧z8k B 2 c t 2) 8 ?_ ?_
 ·exact⟨0,[], .nil,D,i,_,_,_,_,_,by omega,rfl,by simp,hB,hD,hi,h0,h1,h2,h6,h7,h8,h9,rfl, .inl rfl⟩
 clear h0 h1 h2 h6 h7 h8 h9 hB hD hi
 rintro m ⟨ts,h,clk⟩ P ⟨j,acc,t,D,i,b,c,d,x,y,hj,rfl,hacc,hB,hD,hi,h0,h1,h2,h6,h7,h8,h9,rfl,ht⟩ hn he hr
 dsimp only at h0 h1 h2 h6 h7 h8 h9
 have hlen:z2h.length=8:=rfl
 simp only[go_sem,h0,h1,h2,h6,h7,h8,h9,List.length_map,hlen,k5n]
 refine z8c (fun hb=> ?_) (fun hb=> ?_)
 ·have hlt:j < z2h.length:=by simp at hb;omega
  have e1:IntKind.i64.wrap ((j:Int) + 1)=((j + 1:Nat):Int):=z0d (by omega) (by omega)
  have hal:acc.length≤8:=by have:=hacc.length_le;simp at this;omega
  simp only[go_sem,h0,h1,h2,h6,h7,h8,h9]
  refine z0o (z3h hl (by decide) (by decide)) hB hs hD hi ?_
  rintro v D2 i2 ⟨r,rfl,hr1,hr2⟩ hB2 hD2 hi2
  simp only[go_sem,h0,h1,h2,h6,h7,h8,h9]
  refine z8c (fun hc=> ?_) (fun hc=> ?_)
  ·simp only[go_sem,h0,h1,h2,h6,h7,h8,h9,z8x hlt,nat]
   rw[show [AV.agg [.str z2h[j].name, .int .i64 (z2h[j].sort:Int)]]=[z2h[j]].map z1b from rfl,z0j hB2 rfl ht z2e z2e (by simp only[List.length_map,List.length_singleton];omega)]
   simp only[go_sem,h0,h1,h2,h6,h7,h8,h9,e1]
   refine hn (8 - (j + 1)) _ (by omega) ⟨j + 1,acc++[z2h[j]],_,D2,i2,_,_,_,_,_,by omega,rfl, ?_,hB2,hD2,hi2,h0,h1,h2,h6,h7, ?_,rfl,rfl, .inr (.inr ⟨_,rfl,rfl⟩)⟩
   ·rw[List.take_succ_eq_append_getElem hlt]
    exact hacc.append (List.Sublist.refl _)
   ·simp only[z0b,z0,cond_true,cond_false,List.map_append,List.map_cons,List.map_nil]
  ·simp only[go_sem,h0,h1,h2,h6,h7,h8,h9,e1]
   refine hn (8 - (j + 1)) _ (by omega) ⟨j + 1,acc,t,D2,i2,_,_,_,_,_,by omega,rfl, ?_,hB2,hD2,hi2,h0,h1,h2,h6,h7,h8,rfl,rfl,ht⟩
   rw[List.take_succ_eq_append_getElem hlt]
   exact hacc.trans (List.sublist_append_left _ _)
 ·simp only[go_sem,]
  refine he _ _ ?_
  exact hQ acc t _ D i _ _ _ _ _ _ (hacc.trans (List.take_sublist _ _)) hB hD hi (by simp[z0b,h0]) (by simp[z0b,h1]) (by simp[z0b,h2]) (by simp[z0b,h6]) (by simp[z0b,h8])
end
section
variable {l:List Int} {V:List Var} {ps:List Func}
def k1a (V:List Var) (tv:Tip) (body:List App) (tb:Tip):AV:= .agg [.sl (V.map z1b) tv, .sl (body.map z3x) tb, .sl [] .nil, .str [], .sl [] .nil]
theorem k6d {B p g i clk g0 g3 n:Nat} {D:List AObj} {ts:Tmps} {o b c x y:AObj} {ks:List Kf} {Q:Post} {tv:Tip} (hl:q7q l) (hV:V.length≤400) (hN:x1d l) (hP:x4i ps) (hn:n≤2) (hB:D.length=B) (hs:p < B) (hD:D[p]? =some (z5c g l i)) (hi:i≤l.length) {q:Bool}
  (h0:ts 0= .ptr p g 0 0) (h1:ts 1= .sl (ps.map z0q) .no) (h2:ts 2= .bool q) (h6:ts 6= .ptr (B + 0) g0 0 0) (h8:ts 8= .sl (V.map z1b) tv) (h10:ts 10= .ptr (B + 3) g3 0 0) (h11:ts 11= .int .i64 (n:Int))
  (hQ:∀ (acc:List App) (t:Tip) (ts':Tmps) (D':List AObj) (i':Nat) (b c x y:AObj) (clk':Nat),acc.length≤2→(∀ a∈acc,AppOk ps V a)→D'.length=B→D'[p]? =some (z5c g l i')→i'≤l.length→ts' 0= .ptr p g 0 0→ts' 1= .sl (ps.map z0q) .no→ts' 2= .bool q→ts' 6= .ptr (B + 0) g0 0 0→ts' 8= .sl (V.map z1b) tv→ts' 10= .ptr (B + 3) g3 0 0→K Gam B (.exit 2) ks ⟨ts',D'++[o,b,c, .blk g3 [k1a V tv acc t] false false 0,x,y],clk'⟩ Q):
  K Gam B (.loop j9z) ks ⟨ts,D++[o,b,c, .blk g3 [k1a V tv [] .nil] false false 0,x,y],clk⟩ Q:=by
 refine z0y (fun m s=>∃ (n:Nat) (acc:List App) (t:Tip) (D:List AObj) (i:Nat) (b c x y:AObj),m=n∧acc.length + n≤2∧(∀ a∈acc,AppOk ps V a)∧D.length=B∧D[p]? =some (z5c g l i)∧i≤l.length∧s.ts 0= .ptr p g 0 0∧s.ts 1= .sl (ps.map z0q) .no∧s.ts 2= .bool q∧s.ts 6= .ptr (B + 0) g0 0 0∧s.ts 8= .sl (V.map z1b) tv∧s.ts 10= .ptr (B + 3) g3 0 0∧s.ts 11= .int .i64 (n:Int)∧s.h=D++[o,b,c, .blk g3 [k1a V tv acc t] false false 0,x,y]∧z8k B 5 y t 2) n ?_ ?_
 ·exact⟨n,[], .nil,D,i,_,_,_,_,rfl,by simpa using hn,by simp,hB,hD,hi,h0,h1,h2,h6,h8,h10,h11,rfl, .inl rfl⟩
 clear h0 h1 h2 h6 h8 h10 h11 hB hD hi
 rintro m ⟨ts,h,clk⟩ P ⟨n,acc,t,D,i,b,c,x,y,rfl,hlen,hacc,hB,hD,hi,h0,h1,h2,h6,h8,h10,h11,rfl,ht⟩ hnx he hr
 dsimp only at h0 h1 h2 h6 h8 h10 h11
 simp only[go_sem,h0,h1,h2,h6,h8,h10,h11,j9z]
 refine z8c (fun hb=> ?_) (fun hb=> ?_)
 ·have hpos:0 < m:=by simp at hb;omega
  obtain⟨n',rfl⟩:∃ n',m=n' + 1:=⟨m - 1,by omega⟩
  have en:IntKind.i64.wrap (((n' + 1:Nat):Int) - 1)=(n':Int):=z5j (by omega)
  simp only[go_sem,h0,h1,h2,h6,h8,h10,h11,z1i,hB,k1a]
  refine z0o (w6p hl hV hN hP) hB hs hD hi ?_
  rintro v D1 i1 ⟨a,rfl,ha⟩ hB1 hD1 hi1
  have happ:acc.map z3x++[z3x a]=(acc++[a]).map z3x:=by simp
  have hbs:∀ h,bsV h (.agg [.str [], .sl [] .nil]) 1 [0] [z3x a]=some (.sl [z3x a] .full,h):=fun h=>y1v rfl rfl rfl rfl
  simp only[go_sem,h0,h1,h2,h6,h8,h10,h11,hB1,hbs]
  rw[show [z3x a]=[a].map z3x from rfl,z0j hB1 rfl ht z7h z7h (by simp only[List.length_map,List.length_singleton];omega)]
  simp only[go_sem,h0,h1,h2,h6,h8,h10,h11,hB1,en,happ]
  refine⟨by simp[z1f,apart,z0i,z1d,z1h,AOp.isCall,hB];omega, ?_⟩
  refine hnx n' _ (by omega) ⟨n',acc++[a],_,D1,i1,_,_,_,_,rfl,by simp;omega, ?_,hB1,hD1,hi1,h0,h1,h2,h6,h8,h10,rfl,rfl, .inr (.inr ⟨_,rfl,rfl⟩)⟩
  intro a' ha'
  rw[List.mem_append,List.mem_singleton] at ha'
  rcases ha' with ha' | rfl
  ·exact hacc a' ha'
  ·exact ha
 ·simp only[go_sem,]
  refine he _ _ ?_
  exact hQ acc t _ D i _ _ _ _ _ (by omega) hacc hB hD hi (by simp[z0b,h0]) (by simp[z0b,h1]) (by simp[z0b,h2]) (by simp[z0b,h6]) (by simp[z0b,h8]) (by simp[z0b,h10])
theorem y5z {u:Tip} {q:Bool} (hl:q7q l) (hN:x1d l) (hP:x4i ps):GenOk l 47 [.sl (ps.map z0q) u, .bool q] (fun v=>∃ c,v=z0f c∧ClauseOk ps c):=by
 refine GenOk.of rfl u4z rfl rfl rfl (az:=[.sl (ps.map z0q) .no, .bool q]) rfl (by simp[idsL,AV.ids,z0c z2j]) fun D B p g i clk T hB hs hD hi hR=> ?_
 simp only[go_sem,u0s,hB]
 rw[z0a w6q]
 simp only[go_sem,]
 refine v6j (q:=q) (ps:=ps) hl hB hs hD hi rfl rfl rfl rfl rfl rfl rfl ?_
 clear hB hD hi
 intro V tv ts D i b c d x y clk1 hsub hB hD hi h0 h1 h2 h6 h8
 have hV:V.length≤400:=by have:=hsub.length_le;simp[z2h] at this;omega
 simp only[go_sem,h0,h1,h2,h6,h8,hB]
 refine z0o (z3h hl (by decide) (by decide)) hB hs hD hi ?_
 clear hB hD hi
 rintro v D i ⟨r,rfl,hr1,hr2⟩ hB hD hi
 obtain⟨n,rfl⟩:∃ k:Nat,r=k:=⟨r.toNat,by omega⟩
 simp only[go_sem,h0,h1,h2,h6,h8,hB]
 refine k6d (g0:=clk) (n:=n) (q:=q) (V:=V) (tv:=tv) hl hV hN hP (by omega) hB hs hD hi (by simp[z0b,h0]) (by simp[z0b,h1]) (by simp[z0b,h2]) (by simp[z0b,h6]) (by simp[z0b,h8]) rfl rfl ?_
 clear hB hD hi
 intro body tb ts2 D i b2 c2 x2 y2 clk2 hlen hbody hB hD hi q0 q1 q2 q6 q8 q10
 simp only[go_sem,q0,q1,q2,q6,q8,q10,hB,k1a]
 have hG:=GenOk.conv (args':=[nat 3, .sl (V.map z1b) tv]) (x7k (V:=V) hl hV hN 3 (by omega)) rfl u0x rfl rfl rfl rfl
 refine z0o hG hB hs hD hi ?_
 clear hB hD hi
 rintro v D i ⟨gd,rfl,hgd⟩ hB hD hi
 simp only[go_sem,q0,q1,q2,q6,q8,q10,hB,z0l]
 refine z8c (fun hc=> ?_) (fun hc=> ?_)
 ·simp only[go_sem,q0,q1,q2,q6,q8,q10,hB]
  refine z0o (w6p hl hV hN hP) hB hs hD hi ?_
  clear hB hD hi
  rintro v D i ⟨a,rfl,ha⟩ hB hD hi
  simp only[go_sem,q0,q1,q2,q6,q8,q10,hB,z3x]
  have hid:(AV.agg [.sl (V.map z1b) tv, .sl (body.map z3x) tb, .sl (gd.map eNode) .no, .str a.pred, .sl (a.args.map z0l) .no]).cv.ids=[]:=z1z ⟨V,body,gd,a⟩
  rw[z2x rfl hid]
  exact hR _ _ i (by rw[z0u hB hs];exact hD) hi ⟨⟨V,body,gd,a⟩,rfl,hsub,hlen,hbody,hgd, .inr ha⟩
 ·simp only[go_sem,q0,q1,q2,q6,q8,q10,hB]
  have hid:(AV.agg [.sl (V.map z1b) tv, .sl (body.map z3x) tb, .sl (gd.map eNode) .no, .str [], .sl [] .nil]).cv.ids=[]:=z1z ⟨V,body,gd,⟨[],[]⟩⟩
  rw[z2x rfl hid]
  exact hR _ _ i (by rw[z0u hB hs];exact hD) hi ⟨⟨V,body,gd,⟨[],[]⟩⟩,rfl,hsub,hlen,hbody,hgd, .inl ⟨rfl,rfl⟩⟩
end
theorem q4x {h:List AObj} {e n:Nat} {xs:List AV} {t:Tip} {k:IntKind} (hn:n≤xs.length) (he:z4l e xs=true):slV h (some e) (.sl xs t) none (some (.int k (n:Int))) none=some (.sl (xs.take n) (if n=xs.length then (if t= .nil then .nil else t) else .no),h):=by
 simp[slV,z2v,z4v,hn,he]
theorem y6a {zs:List Int} {u:Tip} {h:List AObj} {clk:Nat}:∃ k g c,z5b Gam k 20 [.sl (z9y zs) u] h clk=some (.ptr h.length g 0 0,h++[z5c g (zs.take 400) 0],c):=by
 have hw:∀ (D:List AObj) (B:Nat),D.length=B→K Gam B k5m.body [] ⟨q0b [.sl (z9y zs) .no],D++List.replicate k5m.nslots .dead,clk⟩ (fun e s=>e= .ret∧∃ g,s.ts 2= .ptr (B + 0) g 0 0∧s.h=D++[z5c g (zs.take 400) 0]):=by
  intro D B hB
  have hm:(if (400:Int) < (zs.length:Int) then (400:Int) else (zs.length:Int))=((min zs.length 400:Nat):Int):=by
   split <;> omega
  have hh:z4l 1 (z9y zs)=true:=by cases zs <;> rfl
  have ht:(z9y zs).take (min zs.length 400)=z9y (zs.take 400):=by
   rw[z9y,z9y,←List.map_take]
   congr 1
   rcases Nat.le_total zs.length 400 with h | h
   ·rw[Nat.min_eq_left h,List.take_length,List.take_of_length_le h]
   ·rw[Nat.min_eq_right h]
  simp only[go_sem,k5m,hB,z5r,hm,q4x (xs:=z9y zs) (n:=min zs.length 400) (by rw[z5r];omega) hh,ht]
  exact⟨_,rfl,by simp[z5c]⟩
 obtain⟨k,e,s,he,rfl,g,hp,hs⟩:=hw (maskFrom [] 0 h) _ rfl
 rw[z4g] at he hp
 have hpa:z1n h k5m.byref 0 [.sl (z9y zs) u]=some [.sl (z9y zs) .no]:=rfl
 have hl:z0s k5m.byref 0 [.sl (z9y zs) u]=[]:=rfl
 have hids:idsL [.sl (z9y zs) .no]=[]:=by simp[idsL,AV.ids,z8d]
 have hres:z1s s.h s.ts k5m.results=some [.ptr (h.length + 0) g 0 0]:=by simp only[k5m,z1s,hp,Option.map_some]
 refine⟨k,g,s.clk, ?_⟩
 unfold z5b z0k
 simp only[show Gam.ext 20=none from rfl,u4v,hpa,hl,freezeAll,hids,reach,he,show k5m.owned=false from rfl,Bool.false_eq_true,if_false,hres,z1k,conv,AV.obs,z5y]
 rw[if_neg (by simp[AV.ids])]
 rw[hs,←z4g (T:=[]) (h:=h) (k:=0),List.drop_left]
 simp
theorem z1r {l:List Int} {f B k g i clk gg:Nat} {args:List AV} {R:AV→Prop} {D L:List AObj} {m:Md} {dst:Option Nat} {os:List AOper} {ts:Tmps} {ks:List Kf} {Q:Post} (hg:GenOk l f args R) (hB:D.length=B) (hL:L[k]? =some (z5c g l i)) (hi:i≤l.length)
  (hQ:∀ v i',R v→i'≤l.length→O Gam B (m.add ([B + k],[B + k])) (gg + 1) os ⟨z9f ts dst v,D++L.set k (z5c g l i'),clk⟩ ks Q):CK Gam B f (.ptr (B + k) g 0 0::args) (D++L) clk m dst gg os ts ks Q:=by
 unfold CK
 have hD':(D++L)[B + k]? =some (z5c g l i):=by rw[z6k hB];exact hL
 obtain⟨_,hf⟩:=hg (D++L) (B + k) g i clk (fun _ _ _=>True) hD' hi (fun _ _ _ _=>trivial)
 refine (hg (D++L) (B + k) g i clk _ hD' hi fun v i' hi' hv=> ?_).1
 refine k0d (f':=([B + k],[B + k])) ?_ ?_ ?_
 ·rw[hf];exact fun x hx=>hx
 ·rw[hf];exact fun x hx=>(List.mem_filter.1 hx).1
 ·rw[z5i hB]
  exact hQ v i' hv hi'
def u6e:List Func:=[⟨[80],[2],1⟩,⟨[81],[2,2],1⟩,⟨[82],[1,2,2],1⟩,⟨[90],[],1⟩,⟨[83],[3,4],1⟩]
def u6h:Func:=⟨[78],[2],1⟩
def allPreds:List Func:=[⟨[80],[2],1⟩,⟨[81],[2,2],1⟩,⟨[82],[1,2,2],1⟩,⟨[90],[],1⟩,⟨[83],[3,4],1⟩,⟨[78],[2],1⟩]
theorem k6e {n:Nat} (h1:0 < n):x4i (u6e.take n):=by
 refine⟨by simp[u6e];omega,by simp[u6e];omega,fun f hf=> ?_⟩
 have:=List.mem_of_mem_take hf
 simp only[u6e,List.mem_cons,List.not_mem_nil,or_false] at this
 rcases this with rfl | rfl | rfl | rfl | rfl <;> simp
def SysOk (s:Sys):Prop:=(∃ n,2≤n∧n≤5∧s.preds=u6e.take n)∧s.clauses.length≤8∧∀ c∈s.clauses,ClauseOk s.preds c
theorem k1b {zs:List Int} {u:Tip} {B gg clk:Nat} {D L:List AObj} {m:Md} {dst:Option Nat} {os:List AOper} {ts:Tmps} {ks:List Kf} {Q:Post} (hQ:∀ g c,O Gam B (m.add (z3p (z0v Gam 20 [.sl (z9y zs) u] (D++L)) (D++L) ((D++L)++[z5c g (zs.take 400) 0]))) (gg + 1) os ⟨z9f ts dst (.ptr (D++L).length g 0 0),(D++L)++[z5c g (zs.take 400) 0],c⟩ ks Q):CK Gam B 20 [.sl (z9y zs) u] (D++L) clk m dst gg os ts ks Q:=by
 obtain⟨k,g,c,hk⟩:=y6a (u:=u) (h:=D++L) (clk:=clk)
 exact⟨k,_,_,_,hk,hQ g c⟩
def u5y (B:Nat) (h D:List AObj) (rs:List ARes) (clk:Nat) (Q:AV→List AObj→Nat→Prop):Post:=fun e s=>(∀ i,e≠ .exit i)∧∃ vs L,z1s s.h s.ts rs=some vs∧s.h=D++L∧(((z1k vs).ids=[]∧Q (z1k vs) h clk)∨((∃ i∈(z1k vs).ids,B≤i)∧Q (z1k vs) (h++L) s.clk))
theorem k8b {f:Nat} {args az:List AV} {h:List AObj} {clk:Nat} {af:AFun} {Q:AV→List AObj→Nat→Prop} (hext:Gam.ext f=none) (hfn:Gam.fn f=some af) (hb:af.byref=[]) (ho:af.owned=true) (hobs:z4k args=[]) (has:cvL args=az) (hids:idsL az=[])
  (hw:∀ (D:List AObj) (B:Nat),D.length=B→B=h.length→K Gam B af.body [] ⟨q0b az,D++List.replicate af.nslots .dead,clk⟩ (u5y B h D af.results clk Q)):WC Gam f args h clk Q:=by
 obtain⟨k,e,s,he,hne,vs,L,hr,hL,hq⟩:=hw (maskFrom [] 0 h) h.length z4g rfl
 have hp:z1n h af.byref 0 args=some az:=by rw[hb,z1j hobs,has]
 have hl:z0s af.byref 0 args=[]:=by rw[hb];exact z4n hobs
 have hdrop:s.h.drop h.length=L:=by rw[hL,List.drop_left' z4g]
 rcases hq with ⟨h1,h2⟩ | ⟨⟨i,hi1,hi2⟩,h2⟩
 ·refine⟨k,z1k vs,h,clk, ?_,h2⟩
  unfold z5b z0k
  simp only[hext,hfn,hp,hl,freezeAll,hids,reach,he,hr,ho,if_true,z5y]
  cases e with
  | exit i=>exact absurd rfl (hne i)
  | norm=>simp[h1]
  | ret=>simp[h1]
 ·refine⟨k,z1k vs,h++L,s.clk, ?_,h2⟩
  have hall:(((z1k vs).ids++(List.map (fun i=>(Option.map AObj.ids s.h[i]?).getD []) ([]:List Nat)).flatten).all fun x=>decide (x < h.length))=false:=by
   rw[List.all_eq_false]
   exact⟨i,by simp[hi1],by simp;omega⟩
  unfold z5b z0k
  simp only[hext,hfn,hp,hl,freezeAll,hids,reach,he,hr,ho,if_true,z5y,hall,Bool.false_eq_true,if_false,hdrop]
  cases e with
  | exit i=>exact absurd rfl (hne i)
  | norm=>simp
  | ret=>simp
section
open Sh
set_option maxHeartbeats 0
noncomputable def w6t:AFun:=(fun (a:AFun) (_:Gam.fn 314=some a)=>a) _ (by conv=>lhs;reduce;simp only[Int.reduceOfNat,Int.reduceNegSucc])
theorem y6b:Gam.fn 314=some w6t:=by kernel_rfl
noncomputable def w6u:AFun:=(fun (a:AFun) (_:Gam.fn 332=some a)=>a) _ (by conv=>lhs;reduce;simp only[Int.reduceOfNat,Int.reduceNegSucc])
theorem y6c:Gam.fn 332=some w6u:=by kernel_rfl
noncomputable def u1e:AFun:=(fun (a:AFun) (_:Gam.fn 188=some a)=>a) _ (by conv=>lhs;reduce;simp only[Int.reduceOfNat,Int.reduceNegSucc])
noncomputable def q7a:ACode:=(fun (a:ACode) (_:fl [] (lp u1e 0)=a)=>a) _ (by conv=>lhs;reduce;simp only[Int.reduceOfNat,Int.reduceNegSucc])
attribute [local irreducible] q7a
noncomputable def k1c:AFun:=(fun (a:AFun) (_:flF [q7a] u1e=a)=>a) _ (by conv=>lhs;reduce;simp only[Int.reduceOfNat,Int.reduceNegSucc])
theorem w6v:Gam.fn 188=some k1c:=by kernel_rfl
noncomputable def w6w:AFun:=(fun (a:AFun) (_:Gam.fn 253=some a)=>a) _ (by conv=>lhs;reduce;simp only[Int.reduceOfNat,Int.reduceNegSucc])
theorem y6d:Gam.fn 253=some w6w:=by kernel_rfl
noncomputable def v6k:AFun:=(fun (a:AFun) (_:Gam.fn 254=some a)=>a) _ (by conv=>lhs;reduce;simp only[Int.reduceOfNat,Int.reduceNegSucc])
theorem y6e:Gam.fn 254=some v6k:=by kernel_rfl
noncomputable def u1f:AFun:=(fun (a:AFun) (_:Gam.fn 305=some a)=>a) _ (by conv=>lhs;reduce;simp only[Int.reduceOfNat,Int.reduceNegSucc])
noncomputable def j3e:ACode:=(fun (a:ACode) (_:fl [] (lp u1f 0)=a)=>a) _ (by conv=>lhs;reduce;simp only[Int.reduceOfNat,Int.reduceNegSucc])
attribute [local irreducible] j3e
noncomputable def w6x:AFun:=(fun (a:AFun) (_:flF [j3e] u1f=a)=>a) _ (by conv=>lhs;reduce;simp only[Int.reduceOfNat,Int.reduceNegSucc])
theorem y6f:Gam.fn 305=some w6x:=by kernel_rfl
noncomputable def y6g:AFun:=(fun (a:AFun) (_:Gam.fn 306=some a)=>a) _ (by conv=>lhs;reduce;simp only[Int.reduceOfNat,Int.reduceNegSucc])
noncomputable def x2m:ACode:=(fun (a:ACode) (_:fl [] (lp y6g 1)=a)=>a) _ (by conv=>lhs;reduce;simp only[Int.reduceOfNat,Int.reduceNegSucc])
attribute [local irreducible] x2m
noncomputable def j3f:ACode:=(fun (a:ACode) (_:fl [x2m] (lp y6g 0)=a)=>a) _ (by conv=>lhs;reduce;simp only[Int.reduceOfNat,Int.reduceNegSucc])
attribute [local irreducible] j3f
noncomputable def w6y:AFun:=(fun (a:AFun) (_:flF [j3f,x2m] y6g=a)=>a) _ (by conv=>lhs;reduce;simp only[Int.reduceOfNat,Int.reduceNegSucc])
theorem y6h:Gam.fn 306=some w6y:=by kernel_rfl
noncomputable def y1x:AFun:=(fun (a:AFun) (_:Gam.fn 307=some a)=>a) _ (by conv=>lhs;reduce;simp only[Int.reduceOfNat,Int.reduceNegSucc])
noncomputable def q9l:ACode:=(fun (a:ACode) (_:fl [] (lp y1x 2)=a)=>a) _ (by conv=>lhs;reduce;simp only[Int.reduceOfNat,Int.reduceNegSucc])
attribute [local irreducible] q9l
noncomputable def x2n:ACode:=(fun (a:ACode) (_:fl [q9l] (lp y1x 1)=a)=>a) _ (by conv=>lhs;reduce;simp only[Int.reduceOfNat,Int.reduceNegSucc])
attribute [local irreducible] x2n
noncomputable def j3g:ACode:=(fun (a:ACode) (_:fl [x2n,q9l] (lp y1x 0)=a)=>a) _ (by conv=>lhs;reduce;simp only[Int.reduceOfNat,Int.reduceNegSucc])
attribute [local irreducible] j3g
noncomputable def w6z:AFun:=(fun (a:AFun) (_:flF [j3g,x2n,q9l] y1x=a)=>a) _ (by conv=>lhs;reduce;simp only[Int.reduceOfNat,Int.reduceNegSucc])
theorem y6i:Gam.fn 307=some w6z:=by kernel_rfl
noncomputable def j6m:AFun:=(fun (a:AFun) (_:Gam.fn 309=some a)=>a) _ (by conv=>lhs;reduce;simp only[Int.reduceOfNat,Int.reduceNegSucc])
theorem y6j:Gam.fn 309=some j6m:=by kernel_rfl
noncomputable def u1g:AFun:=(fun (a:AFun) (_:Gam.fn 310=some a)=>a) _ (by conv=>lhs;reduce;simp only[Int.reduceOfNat,Int.reduceNegSucc])
noncomputable def q9m:ACode:=(fun (a:ACode) (_:fl [] (lp u1g 0)=a)=>a) _ (by conv=>lhs;reduce;simp only[Int.reduceOfNat,Int.reduceNegSucc])
attribute [local irreducible] q9m
noncomputable def w7a:AFun:=(fun (a:AFun) (_:flF [q9m] u1g=a)=>a) _ (by conv=>lhs;reduce;simp only[Int.reduceOfNat,Int.reduceNegSucc])
theorem y6k:Gam.fn 310=some w7a:=by kernel_rfl
noncomputable def u1h:AFun:=(fun (a:AFun) (_:Gam.fn 230=some a)=>a) _ (by conv=>lhs;reduce;simp only[Int.reduceOfNat,Int.reduceNegSucc])
noncomputable def x7l:ACode:=(fun (a:ACode) (_:fl [] (lp u1h 0)=a)=>a) _ (by conv=>lhs;reduce;simp only[Int.reduceOfNat,Int.reduceNegSucc])
attribute [local irreducible] x7l
noncomputable def w7b:AFun:=(fun (a:AFun) (_:flF [x7l] u1h=a)=>a) _ (by conv=>lhs;reduce;simp only[Int.reduceOfNat,Int.reduceNegSucc])
theorem y6l:Gam.fn 230=some w7b:=by kernel_rfl
noncomputable def u1i:AFun:=(fun (a:AFun) (_:Gam.fn 229=some a)=>a) _ (by conv=>lhs;reduce;simp only[Int.reduceOfNat,Int.reduceNegSucc])
noncomputable def j3h:ACode:=(fun (a:ACode) (_:fl [] (lp u1i 0)=a)=>a) _ (by conv=>lhs;reduce;simp only[Int.reduceOfNat,Int.reduceNegSucc])
attribute [local irreducible] j3h
noncomputable def w7c:AFun:=(fun (a:AFun) (_:flF [j3h] u1i=a)=>a) _ (by conv=>lhs;reduce;simp only[Int.reduceOfNat,Int.reduceNegSucc])
theorem y6m:Gam.fn 229=some w7c:=by kernel_rfl
noncomputable def v6l:AFun:=(fun (a:AFun) (_:Gam.fn 321=some a)=>a) _ (by conv=>lhs;reduce;simp only[Int.reduceOfNat,Int.reduceNegSucc])
theorem w7d:Gam.fn 321=some v6l:=by kernel_rfl
noncomputable def v6m:AFun:=(fun (a:AFun) (_:Gam.fn 322=some a)=>a) _ (by conv=>lhs;reduce;simp only[Int.reduceOfNat,Int.reduceNegSucc])
theorem w7e:Gam.fn 322=some v6m:=by kernel_rfl
noncomputable def v6n:AFun:=(fun (a:AFun) (_:Gam.fn 348=some a)=>a) _ (by conv=>lhs;reduce;simp only[Int.reduceOfNat,Int.reduceNegSucc])
theorem w7f:Gam.fn 348=some v6n:=by kernel_rfl
noncomputable def v6o:AFun:=(fun (a:AFun) (_:Gam.fn 360=some a)=>a) _ (by conv=>lhs;reduce;simp only[Int.reduceOfNat,Int.reduceNegSucc])
theorem w7g:Gam.fn 360=some v6o:=by kernel_rfl
noncomputable def u1j:AFun:=(fun (a:AFun) (_:Gam.fn 323=some a)=>a) _ (by conv=>lhs;reduce;simp only[Int.reduceOfNat,Int.reduceNegSucc])
noncomputable def j3i:ACode:=(fun (a:ACode) (_:fl [] (lp u1j 0)=a)=>a) _ (by conv=>lhs;reduce;simp only[Int.reduceOfNat,Int.reduceNegSucc])
attribute [local irreducible] j3i
noncomputable def w7h:AFun:=(fun (a:AFun) (_:flF [j3i] u1j=a)=>a) _ (by conv=>lhs;reduce;simp only[Int.reduceOfNat,Int.reduceNegSucc])
theorem y6n:Gam.fn 323=some w7h:=by kernel_rfl
noncomputable def v6p:AFun:=(fun (a:AFun) (_:Gam.fn 346=some a)=>a) _ (by conv=>lhs;reduce;simp only[Int.reduceOfNat,Int.reduceNegSucc])
theorem w7i:Gam.fn 346=some v6p:=by kernel_rfl
noncomputable def v6q:AFun:=(fun (a:AFun) (_:Gam.fn 347=some a)=>a) _ (by conv=>lhs;reduce;simp only[Int.reduceOfNat,Int.reduceNegSucc])
theorem w7j:Gam.fn 347=some v6q:=by kernel_rfl
noncomputable def v6r:AFun:=(fun (a:AFun) (_:Gam.fn 354=some a)=>a) _ (by conv=>lhs;reduce;simp only[Int.reduceOfNat,Int.reduceNegSucc])
theorem w7k:Gam.fn 354=some v6r:=by kernel_rfl
noncomputable def v6s:AFun:=(fun (a:AFun) (_:Gam.fn 361=some a)=>a) _ (by conv=>lhs;reduce;simp only[Int.reduceOfNat,Int.reduceNegSucc])
theorem w7l:Gam.fn 361=some v6s:=by kernel_rfl
noncomputable def u1k:AFun:=(fun (a:AFun) (_:Gam.fn 366=some a)=>a) _ (by conv=>lhs;reduce;simp only[Int.reduceOfNat,Int.reduceNegSucc])
noncomputable def v1a:ACode:=(fun (a:ACode) (_:fl [] (lp u1k 0)=a)=>a) _ (by conv=>lhs;reduce;simp only[Int.reduceOfNat,Int.reduceNegSucc])
attribute [local irreducible] v1a
noncomputable def w7m:AFun:=(fun (a:AFun) (_:flF [v1a] u1k=a)=>a) _ (by conv=>lhs;reduce;simp only[Int.reduceOfNat,Int.reduceNegSucc])
theorem y6o:Gam.fn 366=some w7m:=by kernel_rfl
def w7n:AFun:=
 {ntmps:=8,nslots:=0,results:=[.tmp 4],byref:=[],owned:=false,
  body:=(.seq (.region 1 [N 4 (.move (I 0))] []) (.seq (.region 4 [M 5 0,M 6 1,N 7 (.call 386 [(.tmp 5),(.tmp 6)]),M 4 7] []) .ret))}
theorem y6p:Gam.fn 376=some w7n:=by kernel_rfl
noncomputable def w7o:AFun:=(fun (a:AFun) (_:Gam.fn 355=some a)=>a) _ (by conv=>lhs;reduce;simp only[Int.reduceOfNat,Int.reduceNegSucc])
theorem y6q:Gam.fn 355=some w7o:=by kernel_rfl
noncomputable def w7p:AFun:=(fun (a:AFun) (_:Gam.fn 362=some a)=>a) _ (by conv=>lhs;reduce;simp only[Int.reduceOfNat,Int.reduceNegSucc])
theorem y6r:Gam.fn 362=some w7p:=by kernel_rfl
noncomputable def u1l:AFun:=(fun (a:AFun) (_:Gam.fn 367=some a)=>a) _ (by conv=>lhs;reduce;simp only[Int.reduceOfNat,Int.reduceNegSucc])
noncomputable def j3j:ACode:=(fun (a:ACode) (_:fl [] (lp u1l 0)=a)=>a) _ (by conv=>lhs;reduce;simp only[Int.reduceOfNat,Int.reduceNegSucc])
attribute [local irreducible] j3j
noncomputable def w7q:AFun:=(fun (a:AFun) (_:flF [j3j] u1l=a)=>a) _ (by conv=>lhs;reduce;simp only[Int.reduceOfNat,Int.reduceNegSucc])
theorem y6s:Gam.fn 367=some w7q:=by kernel_rfl
noncomputable def u1m:AFun:=(fun (a:AFun) (_:Gam.fn 356=some a)=>a) _ (by conv=>lhs;reduce;simp only[Int.reduceOfNat,Int.reduceNegSucc])
noncomputable def j3k:ACode:=(fun (a:ACode) (_:fl [] (lp u1m 0)=a)=>a) _ (by conv=>lhs;reduce;simp only[Int.reduceOfNat,Int.reduceNegSucc])
attribute [local irreducible] j3k
noncomputable def w7r:AFun:=(fun (a:AFun) (_:flF [j3k] u1m=a)=>a) _ (by conv=>lhs;reduce;simp only[Int.reduceOfNat,Int.reduceNegSucc])
theorem y6t:Gam.fn 356=some w7r:=by kernel_rfl
noncomputable def y6u:AFun:=(fun (a:AFun) (_:Gam.fn 357=some a)=>a) _ (by conv=>lhs;reduce;simp only[Int.reduceOfNat,Int.reduceNegSucc])
noncomputable def x2o:ACode:=(fun (a:ACode) (_:fl [] (lp y6u 1)=a)=>a) _ (by conv=>lhs;reduce;simp only[Int.reduceOfNat,Int.reduceNegSucc])
attribute [local irreducible] x2o
noncomputable def j3l:ACode:=(fun (a:ACode) (_:fl [x2o] (lp y6u 0)=a)=>a) _ (by conv=>lhs;reduce;simp only[Int.reduceOfNat,Int.reduceNegSucc])
attribute [local irreducible] j3l
noncomputable def w7s:AFun:=(fun (a:AFun) (_:flF [j3l,x2o] y6u=a)=>a) _ (by conv=>lhs;reduce;simp only[Int.reduceOfNat,Int.reduceNegSucc])
theorem y6v:Gam.fn 357=some w7s:=by kernel_rfl
noncomputable def u1n:AFun:=(fun (a:AFun) (_:Gam.fn 358=some a)=>a) _ (by conv=>lhs;reduce;simp only[Int.reduceOfNat,Int.reduceNegSucc])
noncomputable def j3m:ACode:=(fun (a:ACode) (_:fl [] (lp u1n 0)=a)=>a) _ (by conv=>lhs;reduce;simp only[Int.reduceOfNat,Int.reduceNegSucc])
attribute [local irreducible] j3m
noncomputable def w7t:AFun:=(fun (a:AFun) (_:flF [j3m] u1n=a)=>a) _ (by conv=>lhs;reduce;simp only[Int.reduceOfNat,Int.reduceNegSucc])
theorem y6w:Gam.fn 358=some w7t:=by kernel_rfl
noncomputable def k6f:AFun:=(fun (a:AFun) (_:Gam.fn 359=some a)=>a) _ (by conv=>lhs;reduce;simp only[Int.reduceOfNat,Int.reduceNegSucc])
theorem y6x:Gam.fn 359=some k6f:=by kernel_rfl
noncomputable def u1o:AFun:=(fun (a:AFun) (_:Gam.fn 364=some a)=>a) _ (by conv=>lhs;reduce;simp only[Int.reduceOfNat,Int.reduceNegSucc])
noncomputable def x7m:ACode:=(fun (a:ACode) (_:fl [] (lp u1o 0)=a)=>a) _ (by conv=>lhs;reduce;simp only[Int.reduceOfNat,Int.reduceNegSucc])
attribute [local irreducible] x7m
noncomputable def w7u:AFun:=(fun (a:AFun) (_:flF [x7m] u1o=a)=>a) _ (by conv=>lhs;reduce;simp only[Int.reduceOfNat,Int.reduceNegSucc])
theorem w7v:Gam.fn 364=some w7u:=by kernel_rfl
noncomputable def y6y:AFun:=(fun (a:AFun) (_:Gam.fn 365=some a)=>a) _ (by conv=>lhs;reduce;simp only[Int.reduceOfNat,Int.reduceNegSucc])
noncomputable def k1d:ACode:=(fun (a:ACode) (_:fl [] (lp y6y 1)=a)=>a) _ (by conv=>lhs;reduce;simp only[Int.reduceOfNat,Int.reduceNegSucc])
attribute [local irreducible] k1d
noncomputable def v1b:ACode:=(fun (a:ACode) (_:fl [k1d] (lp y6y 0)=a)=>a) _ (by conv=>lhs;reduce;simp only[Int.reduceOfNat,Int.reduceNegSucc])
attribute [local irreducible] v1b
noncomputable def v6t:AFun:=(fun (a:AFun) (_:flF [v1b,k1d] y6y=a)=>a) _ (by conv=>lhs;reduce;simp only[Int.reduceOfNat,Int.reduceNegSucc])
theorem y6z:Gam.fn 365=some v6t:=by kernel_rfl
noncomputable def u1p:AFun:=(fun (a:AFun) (_:Gam.fn 372=some a)=>a) _ (by conv=>lhs;reduce;simp only[Int.reduceOfNat,Int.reduceNegSucc])
noncomputable def x2p:ACode:=(fun (a:ACode) (_:fl [] (lp u1p 0)=a)=>a) _ (by conv=>lhs;reduce;simp only[Int.reduceOfNat,Int.reduceNegSucc])
attribute [local irreducible] x2p
noncomputable def v6u:AFun:=(fun (a:AFun) (_:flF [x2p] u1p=a)=>a) _ (by conv=>lhs;reduce;simp only[Int.reduceOfNat,Int.reduceNegSucc])
theorem w7w:Gam.fn 372=some v6u:=by kernel_rfl
noncomputable def u1q:AFun:=(fun (a:AFun) (_:Gam.fn 373=some a)=>a) _ (by conv=>lhs;reduce;simp only[Int.reduceOfNat,Int.reduceNegSucc])
noncomputable def j3n:ACode:=(fun (a:ACode) (_:fl [] (lp u1q 0)=a)=>a) _ (by conv=>lhs;reduce;simp only[Int.reduceOfNat,Int.reduceNegSucc])
attribute [local irreducible] j3n
noncomputable def w7x:AFun:=(fun (a:AFun) (_:flF [j3n] u1q=a)=>a) _ (by conv=>lhs;reduce;simp only[Int.reduceOfNat,Int.reduceNegSucc])
theorem y7a:Gam.fn 373=some w7x:=by kernel_rfl
end
def q7b (s:List Nat):Prop:=s≠[]∧∀ c∈s,48≤c∧c≤57
theorem z6b {h:List AObj} {c:Nat} {s:List Nat} {k:IntKind}:q4s h (.str (c::s)) (.int k 0)=some (.int .u8 (c:Int),h):=x7b (i:=0) rfl
theorem q1z {h:List AObj} {s:List Nat} {i:Nat} {k:IntKind} (hi:i < s.length):q4s h (.str s) (.int k (i:Int))=some (.int .u8 (s[i]:Int),h):=x7b (by simp[hi])
theorem q9n {h:List AObj} {c:Nat} {s:List Nat} {k:IntKind}:slV h none (.str (c::s)) (some (.int k 1)) none none=some (.str s,h):=by
 simp[slV,z2v,z4v]
theorem k6g {h:List AObj} {s:List Nat} {i:Nat} {k:IntKind} (hi:i≤s.length):slV h none (.str s) (some (.int k (i:Int))) none none=some (.str (s.drop i),h):=by
 simp[slV,z2v,z4v,hi]
theorem w7y {h:List AObj} {s:List Nat} {i:Nat} {k:IntKind} (hi:i≤s.length):slV h none (.str s) none (some (.int k (i:Int))) none=some (.str (s.take i),h):=by
 simp[slV,z2v,z4v,hi]
theorem z9r {T:List Nat} {s:List Nat} {R:AV→List AObj→Prop} {h:List AObj}:RV T (some [.str s]) R h=R (.str s) h:=z2x rfl rfl
theorem z0e {T:List Nat} {s:Bool} {R:AV→List AObj→Prop} {h:List AObj}:RV T (some [.bool s]) R h=R (.bool s) h:=z2x rfl rfl
theorem z2m {T:List Nat} {k:IntKind} {n:Int} {R:AV→List AObj→Prop} {h:List AObj}:RV T (some [.int k n]) R h=R (.int k n) h:=z2x rfl rfl
theorem q2a {s:List Nat} (hs:q7b s):Pure Gam 230 [.str s] (.str (dec (z1p s))):=by
 refine Pure.of rfl y6l rfl rfl rfl rfl rfl fun D B clk T hB hT=> ?_
 simp only[go_sem,w7b]
 refine z0y (fun m q=>∃ t:List Nat,m=t.length∧q7b t∧z1p t=z1p s∧q.ts 0= .str t∧q.h=D++[]) s.length ⟨s,rfl,hs,rfl,rfl,rfl⟩ ?_
 rintro m ⟨ts,h,clk⟩ P ⟨t,rfl,ht,hw,h0,rfl⟩ hn he hr
 dsimp only at h0
 have fin:w6g t→∀ (ts':Tmps) (clk':Nat),ts' 0= .str t→P (.exit 0) ⟨ts',D++[],clk'⟩:=by
  intro hc ts' clk' q0
  refine he _ _ ?_
  simp only[go_sem,q0]
  rw[z9r]
  have:=k0q hc
  rw[hw] at this
  rw[←this]
  exact hT _
 obtain⟨c,t',rfl⟩:=List.exists_cons_of_ne_nil ht.1
 by_cases hl:t'=[]
 ·subst hl
  simp only[go_sem,h0,x7l,Int.cast_ofNat_Int,Int.reduceLT,decide_false,Nat.zero_add]
  exact fin ⟨by simp,ht.2,by simp⟩ _ _ (by simp[z0b,h0])
 ·have hpos:0 < t'.length:=List.length_pos_iff.2 hl
  have e1:decide ((1:Int) < ((t'.length + 1:Nat):Int))=true:=by rw[decide_eq_true_iff];omega
  by_cases hc:c=48
  ·subst hc
   simp only[go_sem,h0,x7l,e1,z6b,q9n,decide_true]
   refine hn t'.length _ (by simp) ⟨t',rfl,⟨hl,fun d hd=>ht.2 d (List.mem_cons_of_mem _ hd)⟩, ?_,rfl,rfl⟩
   rw[←hw,z4t];simp
  ·have e2:decide ((c:Int)=48)=false:=by rw[decide_eq_false_iff_not];omega
   simp only[go_sem,h0,x7l,e1,z6b,q9n,e2]
   exact fin ⟨by simp,ht.2,fun _=>by simpa using hc⟩ _ _ (by simp[z0b,h0])
theorem q6a {s:List Nat} (hs:q7b s) (hlen:s.length≤1000):Pure Gam 229 [.str s] (.bool true):=by
 refine Pure.of rfl y6m rfl rfl rfl rfl rfl fun D B clk T hB hT=> ?_
 simp only[go_sem,w7c]
 refine z0y (fun m q=>∃ j:Nat,j≤s.length∧m=s.length - j∧q.ts 0= .str s∧q.ts 3= .int .i64 (j:Int)∧q.h=D++[]) s.length ⟨0,by omega,rfl,rfl,rfl,rfl⟩ ?_
 rintro m ⟨ts,h,clk⟩ P ⟨j,hj,rfl,h0,h3,rfl⟩ hn he hr
 dsimp only at h0 h3
 by_cases hlt:j < s.length
 ·have e1:decide ((j:Int) < (s.length:Int))=true:=by rw[decide_eq_true_iff];omega
  have hc:=hs.2 s[j] (List.getElem_mem hlt)
  have e2:decide ((s[j]:Int) < 48)=false:=by rw[decide_eq_false_iff_not];omega
  have e3:decide ((57:Int) < (s[j]:Int))=false:=by rw[decide_eq_false_iff_not];omega
  have e4:IntKind.i64.wrap ((j:Int) + 1)=((j + 1:Nat):Int):=z0d (by omega) (by omega)
  simp only[go_sem,h0,h3,j3h,e1,q1z hlt,e2,e3,e4]
  exact hn (s.length - (j + 1)) _ (by omega) ⟨j + 1,hlt,rfl,h0,rfl,rfl⟩
 ·have e1:decide ((j:Int) < (s.length:Int))=false:=by rw[decide_eq_false_iff_not];omega
  have e2:decide (s=[])=false:=by simp[hs.1]
  simp only[go_sem,h0,h3,j3h,e1]
  refine he _ _ ?_
  simp only[go_sem,h0,h3,e2,Bool.not_false]
  rw[z0e]
  exact hT _
theorem z6e:∀ {s:List Nat},(∀ c∈s,48≤c∧c≤57)→z1p s < 10 ^ s.length
 | [],_=>by simp[z1p]
 | c::s,h=>by
   have h1:=z6e (s:=s) fun d hd=>h d (List.mem_cons_of_mem _ hd)
   have h2:=h c List.mem_cons_self
   rw[z4t,List.length_cons,Nat.pow_succ]
   have:(c - 48) * 10 ^ s.length≤9 * 10 ^ s.length:=Nat.mul_le_mul_right _ (by omega)
   omega
theorem k6h {c:Nat} {s:List Nat} (hc:49≤c):10 ^ s.length≤z1p (c::s):=by
 rw[z4t]
 have:1 * 10 ^ s.length≤(c - 48) * 10 ^ s.length:=Nat.mul_le_mul_right _ (by omega)
 omega
theorem q1f:∀ {s t:List Nat},s.length=t.length→(∀ c∈s,48≤c∧c≤57)→(∀ c∈t,48≤c∧c≤57)→z4u s t=decide (z1p s < z1p t)
 | [],[],_,_,_=>by simp[z4u]
 | a::s,b::t,hl,hs,ht=>by
   have hl':s.length=t.length:=by simpa using hl
   have ih:=q1f hl' (fun d hd=>hs d (List.mem_cons_of_mem _ hd)) (fun d hd=>ht d (List.mem_cons_of_mem _ hd))
   have h1:=z6e (s:=s) fun d hd=>hs d (List.mem_cons_of_mem _ hd)
   have h2:=z6e (s:=t) fun d hd=>ht d (List.mem_cons_of_mem _ hd)
   have ha:=hs a List.mem_cons_self
   have hb:=ht b List.mem_cons_self
   rw[z4u,ih,z4t,z4t,hl']
   rw[hl'] at h1
   rcases Nat.lt_trichotomy a b with h | h | h
   ·have:(a - 48 + 1) * 10 ^ t.length≤(b - 48) * 10 ^ t.length:=Nat.mul_le_mul_right _ (by omega)
    rw[Nat.add_mul,Nat.one_mul] at this
    have e1:decide (a < b)=true:=by simp[h]
    rw[e1,Bool.true_or]
    symm
    rw[decide_eq_true_iff]
    omega
   ·subst h
    simp
   ·have:(b - 48 + 1) * 10 ^ t.length≤(a - 48) * 10 ^ t.length:=Nat.mul_le_mul_right _ (by omega)
    rw[Nat.add_mul,Nat.one_mul] at this
    have e1:decide (a < b)=false:=by simp;omega
    have e2:decide (a=b)=false:=by simp;omega
    rw[e1,e2,Bool.false_or,Bool.false_and]
    symm
    rw[decide_eq_false_iff_not]
    omega
theorem z6q {a b:Nat} (h:(dec a).length < (dec b).length):a < b:=by
 have h1:=z6e (z1o a)
 rw[z2g] at h1
 rcases Nat.eq_zero_or_pos b with rfl | hb
 ·have h3:([48]:List Nat).length=1:=rfl
  rw[q4v,h3] at h
  have:=List.length_pos_iff.2 (z8v a)
  omega
 ·obtain⟨c,s,hs,hc,_⟩:=j3c hb
  have h2:=k6h (s:=s) hc
  rw[←hs,z2g] at h2
  rw[hs,List.length_cons] at h
  have:10 ^ (dec a).length≤10 ^ s.length:=Nat.pow_le_pow_right (by omega) (by omega)
  omega
theorem k6i {a b:Nat}:(decide ((dec a).length < (dec b).length) || (decide ((dec a).length=(dec b).length) && z4u (dec a) (dec b)))=decide (a < b):=by
 rcases Nat.lt_trichotomy (dec a).length (dec b).length with h | h | h
 ·have:=z6q h
  simp[h,this]
 ·rw[q1f h (z1o a) (z1o b),z2g,z2g]
  simp[h]
 ·have:=z6q h
  have e1:¬ (dec a).length < (dec b).length:=by omega
  have e2:¬ (dec a).length=(dec b).length:=by omega
  have e3:¬ a < b:=by omega
  simp[e1,e2,e3]
section
theorem v6v {a b:Nat}:Pure Gam 309 [.str (dec a), .str (dec b)] (.int .i64 (if a < b then -1 else if a=b then 0 else 1)):=by
 refine Pure.of rfl y6j rfl rfl rfl rfl rfl fun D B clk T hB hT=> ?_
 have hd:=k6i (a:=a) (b:=b)
 have fin:∀ (n:Int),n=(if a < b then -1 else if a=b then 0 else 1)→T (.int .i64 n) (D++[]):=fun n hn=>hn ▸ hT _
 have key:(decide (((dec a).length:Int) < ((dec b).length:Int))=true∧a < b)∨(decide (((dec a).length:Int) < ((dec b).length:Int))=false∧decide (((dec a).length:Int)=((dec b).length:Int))=true∧z4u (dec a) (dec b)=decide (a < b))∨(decide (((dec a).length:Int) < ((dec b).length:Int))=false∧decide (((dec a).length:Int)=((dec b).length:Int))=false∧b < a):=by
  rcases Nat.lt_trichotomy (dec a).length (dec b).length with h | h | h
  ·exact .inl ⟨by rw[decide_eq_true_iff];omega,z6q h⟩
  ·refine .inr (.inl ⟨by rw[decide_eq_false_iff_not];omega,by rw[decide_eq_true_iff];omega, ?_⟩)
   rw[q1f h (z1o a) (z1o b),z2g,z2g]
  ·exact .inr (.inr ⟨by rw[decide_eq_false_iff_not];omega,by rw[decide_eq_false_iff_not];omega,z6q h⟩)
 have heq:decide (dec a=dec b)=decide (a=b):=by
  rw[decide_eq_decide]
  exact⟨j0b,fun h=>h ▸ rfl⟩
 rcases key with ⟨e1,h1⟩ | ⟨e1,e2,e3⟩ | ⟨e1,e2,h1⟩
 ·simp only[go_sem,j6m,e1,Bool.not_true]
  rw[z2m]
  exact fin _ (by rw[if_pos h1])
 ·rcases Nat.lt_trichotomy a b with h | h | h
  ·have e4:decide (a < b)=true:=by simp[h]
   simp only[go_sem,j6m,e1,e2,e3,e4,Bool.not_false]
   rw[z2m]
   exact fin _ (by rw[if_pos h])
  ·have e4:decide (a < b)=false:=by simp;omega
   have e5:decide (a=b)=true:=by simp[h]
   simp only[go_sem,j6m,e1,e2,e3,e4,heq,e5,Bool.not_false]
   rw[z2m]
   exact fin _ (by rw[if_neg (by omega),if_pos h])
  ·have e4:decide (a < b)=false:=by simp;omega
   have e5:decide (a=b)=false:=by simp;omega
   simp only[go_sem,j6m,e1,e2,e3,e4,heq,e5,Bool.not_false]
   rw[z2m]
   exact fin _ (by rw[if_neg (by omega),if_neg (by omega)])
 ·have e5:decide (a=b)=false:=by simp;omega
  simp only[go_sem,j6m,e1,e2,heq,e5,Bool.not_false]
  rw[z2m]
  exact fin _ (by rw[if_neg (by omega),if_neg (by omega)])
section
variable {D L:List AObj} {B k g i:Nat} {es:List AV} {w:Bool}
theorem z8y {K K':IntKind} {n m:Int} (hB:D.length=B) (hL:L[k]? =some (.blk g es true w 0)) (hi:es[i]? =some (.int K' m)):z8s (D++L) 1 (.int K n) (.ptr (B + k) g i 0)=some (.undef,D++L.set k (.blk g (es.set i (.int K n)) true w 0)):=by
 have hb:z2a (D++L) (B + k) g=some (es,true,w,0):=by rw[z6w hB];exact z5z hL
 rw[q0h,hb]
 have hp:pub (D++L) (.int K n)=some (.int K n,D++L):=rfl
 simp only[hi,if_true,hp,x9s,q9b,List.length_singleton,List.all_cons,List.all_nil,x3y,Bool.and_self,true_and,Nat.zero_le,x9w,List.map_nil,List.contains_nil,Bool.not_false,and_self,implies_true,z9z,q9b,Nat.zero_add,Nat.le_refl,List.take_zero,List.nil_append,List.drop_succ_cons,List.drop_nil,List.append_nil,Option.map_some,x2j,z8t,z5i hB]
theorem z8z {len:Nat} {K:IntKind} {x:AV} (hB:D.length=B) (hL:L[k]? =some (.blk g es true w 0)) (hi:es[i]? =some x) (hx:x.cells=[x]) (hl:i < len):z1m (D++L) 1 (.ob (B + k) g 0 len) (.int K (i:Int))=some (.ptr (B + k) g i 0,D++L):=by
 have hb:z2a (D++L) (B + k) g=some (es,true,w,0):=by rw[z6w hB];exact z5z hL
 simp only[z1m,Int.natCast_nonneg,if_true,hb,Int.toNat_natCast,Nat.zero_add,hi,hl,hx,List.length_singleton,and_self]
theorem z9a {len:Nat} (hB:D.length=B) (hL:L[k]? =some (.blk g es true w 0)) (hl:es.length=len):z5a (D++L) (.ob (B + k) g 0 len)=some es:=by
 have hb:z2a (D++L) (B + k) g=some (es,true,w,0):=by rw[z6w hB];exact z5z hL
 simp only[z5a,q7e,hb,Nat.zero_add,hl,Nat.le_refl,if_true,List.drop_zero]
 rw[List.take_of_length_le (by omega)]
end
def bytes (s:List Nat):List AV:=s.map fun (c:Nat)=> .int .u8 (c:Int)
theorem z8f:∀ {s:List Nat},(∀ c∈s,c < 256)→z7e (bytes s)=some s
 | [],_=>rfl
 | c::s,h=>by
   have ih:=z8f (s:=s) fun d hd=>h d (List.mem_cons_of_mem _ hd)
   have hc:=h c List.mem_cons_self
   unfold bytes at ih⊢
   simp only[List.map_cons,z7e,ih,Option.map_some,Int.toNat_natCast]
   rw[if_pos (by omega)]
end
section
def bsR (h:List AObj) (s g:Nat) (z:AV) (n:Nat) (js:List Nat) (vs:List AV):Option (AV×List AObj):=
 if !z.def? then none else match z9t h vs with
  | some ws=>(z5n z.cells.length (List.replicate n z) js ws).map fun es=>(.ob s g 0 n,(freezeAll h (z4k vs)).set s (.blk g es true false 0))
  | none=>none
section
variable {h:List AObj} {base g clk k n:Nat} {ts:Tmps} {z:AV} {qs:List (Nat×AOpd)} {dst:Option Nat} {os:List AOper} {ks:List Kf} {Q:Post}
theorem g2j:prim h base g ts (.buildSlice k true z n qs)=bsR h (base + k) g z n (qs.map (·.1)) (qs.map fun p=>p.2.ev ts):=by
 simp only[prim,bsR,if_true]
 rfl
theorem g3n:O Gam base .plain g (⟨dst, .buildSlice k true z n qs,none⟩::os) ⟨ts,h,clk⟩ ks Q=PP Gam base (bsR h (base + k) g z n (qs.map (·.1)) (qs.map fun p=>p.2.ev ts)) dst g os ts clk ks Q:=by rw[q3c rfl,g2j]
theorem g3o {N:Nat} {os0:List AOper} {ps:List (Nat×Nat)} {fs:List (List Nat×List Nat)}:O Gam base (.draw N os0 ps fs) g (⟨dst, .buildSlice k true z n qs,none⟩::os) ⟨ts,h,clk⟩ ks Q=PO Gam base (bsR h (base + k) g z n (qs.map (·.1)) (qs.map fun p=>p.2.ev ts)) ([],(base + k)::(z4k (qs.map fun p=>p.2.ev ts)).map (·.1)) (.draw N os0 ps fs) dst g os ts clk ks Q:=by rw[z6v rfl,g2j];rfl
end
attribute [go_sem] g3n g3o
theorem g4o {h:List AObj} {s g:Nat} {z v:AV} (hz:z.def? =true) (ho:v.obs=[]) (hd:v.cv.def? =true) (hl:v.cv.cells.length=z.cells.length):bsR h s g z 1 [0] [v]=some (.ob s g 0 1,h.set s (.blk g [v.cv] true false 0)):=by
 have hc:z9t h [v]=some [v.cv]:=by
  have:=q7p (h:=h) (vs:=[v]) (by simp[z4k,ho])
  simpa [cvL] using this
 simp only[bsR,hz,hc,z5n,hd,hl,z4k,ho,freezeAll,Bool.not_true,Bool.false_eq_true,if_false,List.length_replicate,Nat.lt_one_iff,and_self,if_true,List.append_nil,Option.map_some]
 rfl
theorem u7l {h:List AObj} {s g:Nat} {l:List Int} {n:Nat} {js:List Nat} (hn:l.length=n) (hj:js=List.range n) (h3:n≤3):bsR h s g (.int .i64 0) n js (l.map fun z=> .int .i64 z)=some (.ob s g 0 n,h.set s (.blk g (l.map fun z=> .int .i64 z) true false 0)):=by
 subst hj
 match l,hn with
 | [],h=>subst h;rfl
 | [a],h=>subst h;rfl
 | [a,b],h=>subst h;rfl
 | [a,b,c],h=>subst h;rfl
 | _::_::_::_::_,h=>simp only[List.length_cons] at h;omega
theorem g5s {h:List AObj} {clk:Nat} {Q:AV→List AObj→Nat→Prop} (hQ:∀ (o0 o1 o2 o3:AObj) (g c:Nat),Q (.ob (h.length + 4) g 0 5) (h++[o0,o1,o2,o3, .blk g (u6e.map z0q) true false 0]) c):WC Gam 45 [] h clk Q:=by
 refine k8b rfl g5r rfl rfl rfl (az:=[]) rfl rfl fun D B hB hBh=> ?_
 have b1:∀ h s g a,bsR h s g (.int .i64 0) 1 [0] [.int .i64 a]=some (.ob s g 0 1,h.set s (.blk g [.int .i64 a] true false 0)):=fun h s g a=>u7l (l:=[a]) rfl rfl (by omega)
 have b2:∀ h s g a b,bsR h s g (.int .i64 0) 2 [0,1] [.int .i64 a, .int .i64 b]=some (.ob s g 0 2,h.set s (.blk g [.int .i64 a, .int .i64 b] true false 0)):=fun h s g a b=>u7l (l:=[a,b]) rfl rfl (by omega)
 have b3:∀ h s g a b c,bsR h s g (.int .i64 0) 3 [0,1,2] [.int .i64 a, .int .i64 b, .int .i64 c]=some (.ob s g 0 3,h.set s (.blk g [.int .i64 a, .int .i64 b, .int .i64 c] true false 0)):=fun h s g a b c=>u7l (l:=[a,b,c]) rfl rfl (by omega)
 have b5:∀ (g g0 g1 g2 g3:Nat) (o:AObj),bsR (D++[.blk g0 [.int .i64 2] true false 0, .blk g1 [.int .i64 2, .int .i64 2] true false 0, .blk g2 [.int .i64 1, .int .i64 2, .int .i64 2] true false 0, .blk g3 [.int .i64 3, .int .i64 4] true false 0,o]) (B + 4) g (.agg [.str [], .sl [] .nil, .int .i64 0]) 5 [0,1,2,3,4] [.agg [.str [80], .ob (B + 0) g0 0 1, .int .i64 1], .agg [.str [81], .ob (B + 1) g1 0 2, .int .i64 1], .agg [.str [82], .ob (B + 2) g2 0 3, .int .i64 1], .agg [.str [90], .sl [] .nil, .int .i64 1], .agg [.str [83], .ob (B + 3) g3 0 2, .int .i64 1]]=some (.ob (B + 4) g 0 5,D++[.blk g0 [.int .i64 2] true false 1, .blk g1 [.int .i64 2, .int .i64 2] true false 2, .blk g2 [.int .i64 1, .int .i64 2, .int .i64 2] true false 3, .blk g3 [.int .i64 3, .int .i64 4] true false 2, .blk g (u6e.map z0q) true false 0]):=fun g g0 g1 g2 g3 o=>by
  have l0:∀ (L:List AObj) (g:Nat),z2a (D++L) B g=z2a L 0 g:=fun L g=>z6w (k:=0) hB
  have l1:∀ (L:List AObj),(D++L)[B]? =L[0]? :=fun L=>z6k (k:=0) hB
  have l2:∀ (L:List AObj) (o:AObj),(D++L).set B o=D++L.set 0 o:=fun L o=>z5i (k:=0) hB
  simp[bsR,z9t,conv,q7e,l0,l1,l2,z6w hB,z6k hB,z5i hB,k5o,k5p,freezeAll,z4k,AV.obs,z5n,AV.def?,AV.cells,u6e,z0q,nat]
 simp only[go_sem,g4n,hB,b1,b2,b3]
 rw[b5]
 simp only[go_sem,hB]
 refine⟨fun _=>by simp,_,_,v3z.trans rfl,rfl, .inr ⟨⟨B + 4,by simp[z1k,AV.ids,z0b],by omega⟩, ?_⟩⟩
 subst hBh
 exact hQ _ _ _ _ _ _
def g3p {α:Type} (enc:α→AV) (B k:Nat) (cv:AV) (o:AObj) (cs:List α):Prop:=(cv= .sl [] .nil∧cs=[])∨∃ g,cv= .ob (B + k) g 0 cs.length∧o= .blk g (cs.map enc) true true 0∧cs≠[]
abbrev ClRow:=g3p z0f
theorem u7f {α:Type} {enc:α→AV} {e b:Nat} {D L:List AObj} {B k j gen g:Nat} {cs:List α} {c:α} {cv:AV} {o:AObj} (hx:∀ l:List α,z0t e (l.map enc)=true) (hB:D.length=B) (hk:L[k]? =some o) (hj:L[j]? =some (.blk g [enc c] true false 0)) (hc:g3p enc B k cv o cs) (hl:cs.length≤1000000) (hb:b≤1000):
  z1g (D++L) (B + k) gen e b true cv (.ob (B + j) g 0 1)=some (.ob (B + k) gen 0 (cs++[c]).length,D++L.set k (.blk gen ((cs++[c]).map enc) true true 0)):=by
 have hs:z5a (D++L) (.ob (B + j) g 0 1)=some ([c].map enc):=z9a hB hj rfl
 have h1:z0t e ([c].map enc)=true:=hx _
 have h2:z0t e (cs.map enc)=true:=hx _
 have h0:z0t e []=true:=rfl
 have ee:(cs++[c]).map enc=cs.map enc++[c].map enc:=List.map_append
 have hy:([c].map enc).length=1:=rfl
 have hz:([c].map enc).isEmpty=false:=rfl
 have hgt:¬ (cs.length + 1) * (b + 1) > z1c:=by
  have:(cs.length + 1) * (b + 1)≤1000001 * 1001:=Nat.mul_le_mul (by omega) (by omega)
  unfold z1c
  omega
 rw[ee]
 generalize [c].map enc=ys at *
 rcases hc with ⟨rfl,rfl⟩ | ⟨g',rfl,rfl,hne⟩
 ·match ys,hy with
  | [y],_=>
    simp only[List.length_nil,Nat.zero_add,Nat.one_mul] at hgt
    simp only[z1g,hs,h1,h0,Bool.not_true,Bool.false_eq_true,if_false,List.length_nil,List.length_singleton,Nat.zero_add,Nat.one_mul,hgt,decide_false,Bool.or_false,List.nil_append,z5i hB,if_true]
    rfl
 ·have hb':z2a (D++L) (B + k) g'=some (cs.map enc,true,true,0):=by rw[z6w hB];exact z5z hk
  have h3:0 < cs.length:=List.length_pos_iff.2 hne
  have ht:List.take cs.length (cs.map enc)=cs.map enc:=List.take_of_length_le (by simp)
  simp[z1g,hs,h1,h2,hb',hy,hz,z5i hB,hgt,h3,ht,Nat.not_lt.1 hgt]
end
end Go.Proofs.YtahdahokpjigiaaGreatDoor.Am
