/- Walking: terms and formulas are generated Walking: terms and formulas are generated Walking: terms and formulas are generated Walking: terms and formulas are generated Walking: terms and formulas are  -/
import Derived.Test.YtkollgjffkdliaaGreatDoorK21
open Bool renaming not_false → x6,not_true → z8
open Int renaming reduceEq → z7,reduceLT → u6,reduceNegSucc → z5,reduceOfNat → z4
open List renaming getElem_mem → x8,length_cons → v5,length_map → z6,length_singleton → v6,map_append → v8,map_cons → j4,map_nil → k8,mem_append → x4,mem_cons_of_mem → v7,mem_cons_self → j7,mem_of_mem_take → d6,mem_singleton → y3,replicate → x3,take_succ_eq_append_getElem → w7
open Nat renaming le_refl → x7,mul_comm → u1,mul_le_mul_right → w8,pow_le_pow_right → b9,pow_succ → b8
open Nat renaming reduceBEq → z0,reduceAdd → z1,reduceLeDiff → z2,reduceSub → z3
set_option linter.all false
namespace Go.Proofs.YtkollgjffkdliaaGreatDoor.Am
open Go
noncomputable section
set_option maxRecDepth 100000
section
theorem x4w {o:Nat} {l:List Term} {u:Tip} (hl:l.length≤2 ^ 20) (hf:l.flatten.length≤2 ^ 30):Pure Gam 95 [nat o, .sl (l.map z0w) u] (z0w (bare o l.length::l.flatten)):=by
 refine Pure.of rfl y7e rfl rfl rfl (az:=[nat o, .sl (l.map z0w) .no]) rfl (by simp[z0i,z3f,AV.ids,z0d z3z]) fun D B clk T hB hT=> ?_
 have hp:Pure Gam 155 [.agg [.int .i64 o, .int .i64 0, .str [], .str [], .int .i64 0], .sl (l.map z0w) .no] (z0w (bare o l.length::l.flatten)):=k1i (n:=bare o 0) hl hf
 simp only[go_sem,w8g,nat,hB,z1p]
 rw[z0a hp]
 simp only[go_sem,]
 rw[z0y]
 exact hT _
theorem opn {o:Nat} {i:Int} {l:List Term} {u:Tip} (hi:i=o) (hl:l.length≤2 ^ 20) (hf:l.flatten.length≤2 ^ 30):Pure Gam 95 [.int .i64 i, .sl (l.map z0w) u] (z0w (bare o l.length::l.flatten)):=by
 subst hi
 exact x4w hl hf
theorem op1 {o:Nat} {i:Int} {a:Term} (hi:i=o) (ha:a.length≤2 ^ 20):Pure Gam 95 [.int .i64 i, .sl [z0w a] .full] (z0w (bare o 1::a)):=by
 subst hi
 have:=x4w (o:=o) (l:=[a]) (u:= .full) (by simp) (by simp;omega)
 simpa [nat] using this
theorem op2 {o:Nat} {i:Int} {a b:Term} (hi:i=o) (ha:a.length≤2 ^ 20) (hb:b.length≤2 ^ 20):Pure Gam 95 [.int .i64 i, .sl [z0w a,z0w b] .full] (z0w (bare o 2::(a++b))):=by
 subst hi
 have:=x4w (o:=o) (l:=[a,b]) (u:= .full) (by simp) (by simp;omega)
 simpa [nat] using this
theorem op3 {o:Nat} {i:Int} {a b c:Term} (hi:i=o) (ha:a.length≤2 ^ 20) (hb:b.length≤2 ^ 20) (hc:c.length≤2 ^ 20):Pure Gam 95 [.int .i64 i, .sl [z0w a,z0w b,z0w c] .full] (z0w (bare o 3::(a++(b++c)))):=by
 subst hi
 have:=x4w (o:=o) (l:=[a,b,c]) (u:= .full) (by simp) (by simp;omega)
 simpa [nat] using this
section
variable {V:List Var}
theorem GT.op1 {o s s1 d m:Nat} {a:Term} (ha:GT V s1 d m a) (hn:NodeOk V (bare o 1) [s1] s a) (h1:1≤s) (h2:s≤4):GT V s (d + 1) (m + 1) (bare o 1::a):=
 ⟨WF.one ha.1 hn rfl,by have:=ha.2.1;simp;omega,h1,h2⟩
theorem GT.op2 {o s s1 s2 d m1 m2:Nat} {a b:Term} (ha:GT V s1 d m1 a) (hb:GT V s2 d m2 b) (hn:NodeOk V (bare o 2) [s1,s2] s (a++b)) (h1:1≤s) (h2:s≤4):GT V s (d + 1) (m1 + m2 + 1) (bare o 2::(a++b)):=
 ⟨WF.one (ha.1.append hb.1) hn rfl,by have:=ha.2.1;have:=hb.2.1;simp;omega,h1,h2⟩
theorem GT.op3 {o s s1 s2 s3 d m1 m2 m3:Nat} {a b c:Term} (ha:GT V s1 d m1 a) (hb:GT V s2 d m2 b) (hc:GT V s3 d m3 c) (hn:NodeOk V (bare o 3) [s1,s2,s3] s (a++(b++c))) (h1:1≤s) (h2:s≤4):GT V s (d + 1) (m1 + m2 + m3 + 1) (bare o 3::(a++(b++c))):=
 ⟨WF.one (ha.1.append (hb.1.append hc.1)) hn rfl,by have:=ha.2.1;have:=hb.2.1;have:=hc.2.1;simp;omega,h1,h2⟩
end
def TB (s d:Nat):Nat:=if s=1 then 11 * 6 ^ d else 5 * 6 ^ d
theorem bs5 {h:List AObj}:bsV h (.int .i64 0) 5 [0,1,2,3,4] [.int .i64 2, .int .i64 2, .int .i64 3, .int .i64 4, .int .i64 1]=some (.sl [.int .i64 2, .int .i64 2, .int .i64 3, .int .i64 4, .int .i64 1] .full,h):=(rfl)
theorem u6g {r:Nat} {h:List AObj} (hr:r < 5):∃ s:Nat,1≤s∧s≤4∧z1v h 1 (.sl [.int .i64 2, .int .i64 2, .int .i64 3, .int .i64 4, .int .i64 1] .full) (.int .i64 (r:Int))=some (.iptr [.int .i64 (s:Int)] 0,h):=by
 obtain rfl | rfl | rfl | rfl | rfl:r=0∨r=1∨r=2∨r=3∨r=4:=by omega
 ·exact⟨2,by omega,by omega,rfl⟩
 ·exact⟨2,by omega,by omega,rfl⟩
 ·exact⟨3,by omega,by omega,rfl⟩
 ·exact⟨4,by omega,by omega,rfl⟩
 ·exact⟨1,by omega,by omega,rfl⟩
variable {l:List Int} {V:List Var}
theorem z5i:(AV.sl (V.map z2b) .no).ids=[]:=j3m z5z
theorem k1o {d k m:Nat} {u:Tip} (hl:q7t l) (hV:V.length≤400) (hk:3≤k) (hm:5≤m) (hm2:m≤2 ^ 18) (hT:∀ s,2≤s→s≤4→GenOk l 154 [nat s,nat d, .sl (V.map z2b) .no] (x1p V s k m)):GenOk l 94 [nat d, .sl (V.map z2b) u] (x1p V 1 (k + 1) (2 * m + 1)):=by
 refine GenOk.of rfl y7i rfl rfl rfl (az:=[nat d, .sl (V.map z2b) .no]) rfl (by simp[z0i,z3f,z5i]) fun D B p g i clk T hB hs hD hi hR=> ?_
 simp only[go_sem,w8m,hB,nat,z1p,bs5]
 refine z0l (z3u hl (by decide) (by decide)) hB hs hD hi ?_
 rintro v D1 i1 ⟨r,rfl,hr1,hr2⟩ hB1 hD1 hi1
 obtain⟨q,rfl⟩:∃ k:Nat,r=k:=⟨r.toNat,by omega⟩
 obtain⟨s,hs1,hs4,hidx⟩:=u6g (r:=q) (h:=D1++[.dead, .dead]) (by omega)
 simp only[go_sem,hB1,hidx]
 refine z8m (fun hb=> ?_) (fun hb=> ?_)
 ·have hs1':s=1:=by simp at hb;omega
  subst hs1'
  simp only[go_sem,hB1]
  refine z0l (z3u hl (by decide) (by decide)) hB1 hs hD1 hi1 ?_
  rintro v D2 i2 ⟨r,rfl,hr3,hr4⟩ hB2 hD2 hi2
  simp only[go_sem,hB2]
  refine z8m (fun hc=> ?_) (fun hc=> ?_)
  ·simp only[go_sem,hB2]
   refine z0l (z3u hl (by decide) (by decide)) hB2 hs hD2 hi2 ?_
   rintro v D3 i3 ⟨r3,rfl,hr5,hr6⟩ hB3 hD3 hi3
   simp only[go_sem,hB3]
   rw[z0a j0u]
   simp only[go_sem,hB3]
   rw[z0y]
   refine hR _ _ i3 (by rw[z0m hB3 hs];exact hD3) hi3 ⟨_,rfl, ?_⟩
   refine (GT.leaf (n:=bare (if decide (r3=1)=true then 1 else 2) 0) (.bool ?_) rfl (by omega) (by omega)).up (by omega) (by omega)
   split <;> simp
  ·simp only[go_sem,hB2]
   refine z0l (q1q (s:=1) hl (by omega) (by omega) hV) hB2 hs hD2 hi2 ?_
   rintro v D3 i3 ⟨t,rfl,ht⟩ hB3 hD3 hi3
   simp only[go_sem,hB3]
   rw[z0y]
   exact hR _ _ i3 (by rw[z0m hB3 hs];exact hD3) hi3 ⟨_,rfl,ht.up (by omega) (by omega)⟩
 ·have hs2:2≤s:=by simp at hb;omega
  have fin:∀ (o:Nat) (ts:Tmps) (clk:Nat) (D2:List AObj) (i2:Nat) (a b:AObj),(o=11∨(s≠4∧(o=12∨o=13)))→D2.length=B→D2[p]? =some (chObj g l i2)→i2≤l.length→ts 8= .int .i64 (o:Int)→ts 0= .ptr p g 0 0→ts 7= .int .i64 (s:Int)→ts 1= .int .i64 (d:Int)→ts 2= .sl (V.map z2b) .no→
    K Gam B (.seq (.region 14 [⟨some 33, .move (.tmp 8),none⟩,⟨some 34, .move (.tmp 0),none⟩,⟨some 35, .move (.tmp 7),none⟩,⟨some 36, .move (.tmp 1),none⟩,⟨some 37, .move (.tmp 2),none⟩,⟨some 38, .call 154 [.tmp 34, .tmp 35, .tmp 36, .tmp 37],none⟩,⟨some 39, .move (.tmp 0),none⟩,⟨some 40, .move (.tmp 7),none⟩,⟨some 41, .move (.tmp 1),none⟩,⟨some 42, .move (.tmp 2),none⟩,⟨some 43, .call 154 [.tmp 39, .tmp 40, .tmp 41, .tmp 42],none⟩,⟨some 44, .buildSlice 1 false (.sl [] .nil) 2 [(0, .tmp 38),(1, .tmp 43)],none⟩,⟨some 45, .call 95 [.tmp 33, .tmp 44],none⟩,⟨some 6, .move (.tmp 45),none⟩] []) .ret) [] ⟨ts,D2++[a,b],clk⟩ (j9v [p] [.tmp 6] T):=by
   intro o ts clk D2 i2 a b ho hB2 hD2 hi2 g8 g0 g7 g1 g2
   simp only[go_sem,g8,g0,g7,g1,g2]
   refine z0l (hT s hs2 hs4) hB2 hs hD2 hi2 ?_
   rintro v D3 i3 ⟨t1,rfl,ht1⟩ hB3 hD3 hi3
   simp only[go_sem,g8,g0,g7,g1,g2]
   refine z0l (hT s hs2 hs4) hB3 hs hD3 hi3 ?_
   rintro v D4 i4 ⟨t2,rfl,ht2⟩ hB4 hD4 hi4
   simp only[go_sem,g8,g0,g7,g1,g2,z2w]
   have l1:=ht1.2.1
   have l2:=ht2.2.1
   rw[z0a (op2 rfl (by omega) (by omega))]
   simp only[go_sem,]
   rw[z0y]
   refine hR _ _ i4 (by rw[z0m hB4 hs];exact hD4) hi4 ⟨_,rfl,(GT.op2 ht1 ht2 ?_ (by omega) (by omega)).up (by omega) (by omega)⟩
   rcases ho with rfl | ⟨hs',ho⟩
   ·exact .eq hs1 hs4
   ·exact .cmp ho (by omega)
  simp only[go_sem,hB1]
  refine z8m (fun hc=> ?_) (fun hc=> ?_)
  ·have hs3:s≠4:=by simp at hc;omega
   simp only[go_sem,hB1]
   refine z0l (z3u hl (by decide) (by decide)) hB1 hs hD1 hi1 ?_
   rintro v D2 i2 ⟨r,rfl,hr3,hr4⟩ hB2 hD2 hi2
   obtain⟨q,rfl⟩:∃ k:Nat,r=k:=⟨r.toNat,by omega⟩
   have e1:IntKind.i64.wrap (11 + (q:Int))=((11 + q:Nat):Int):=by rw[z0c (by omega) (by omega)];omega
   simp only[k0c,v1g,v1i,j3e,z0b,z0,cond_true,cond_false,z8g,x8c,v1h,k0b,e1,q9i,q5y]
   exact fin (11 + q) _ _ D2 i2 _ _ (by omega) hB2 hD2 hi2 rfl rfl rfl rfl rfl
  ·rw[q5y]
   exact fin 11 _ _ D1 i1 _ _ (.inl rfl) hB1 hD1 hi1 rfl rfl rfl rfl rfl
end
section
variable {l:List Int} {V:List Var}
def q9r (l:List Int) (V:List Var) (d:Nat):Prop:=∀ s,1≤s→s≤4→GenOk l 154 [nat s,nat d, .sl (V.map z2b) .no] (x1p V s (d + 4) (TB s d))
def q5c (l:List Int) (V:List Var) (d:Nat):Prop:=GenOk l 42 [nat d, .sl (V.map z2b) .no] (x1p V 1 (d + 4) (11 * 6 ^ d))
def y7t (l:List Int) (V:List Var) (d:Nat):Prop:=∀ s,1≤s→s≤4→GenOk l 96 [nat s,nat d, .sl (V.map z2b) .no] (x1p V s (d + 4) (TB s d))
def u6h (l:List Int) (V:List Var) (d:Nat):Prop:=∀ s,s=2∨s=3→GenOk l 224 [nat s,nat d, .sl (V.map z2b) .no] (x1p V s (d + 4) (TB s d))
theorem z5b {e:Nat} (he:e≤10):IntKind.i64.wrap (((e + 1:Nat):Int) - 1)=(e:Int):=by rw[z0c (by omega) (by omega)];omega
theorem j0w {s e:Nat}:TB s (e + 1)=6 * TB s e:=by unfold TB;split <;> rw[b8] <;> omega
theorem w8y {s e:Nat}:TB s e≤11 * 6 ^ e:=by
 have:1≤6 ^ e:=Nat.pos_of_ne_zero (by simp)
 unfold TB;split <;> omega
theorem w8z {s e:Nat}:5 * 6 ^ e≤TB s e:=by
 unfold TB;split <;> omega
theorem k1p {e:Nat} (he:e≤3) (hF:q5c l V e) (hT:q9r l V e):y7t l V (e + 1):=by
 intro s h1 h2
 refine GenOk.of rfl y7j rfl rfl rfl (az:=[nat s,nat (e + 1), .sl (V.map z2b) .no]) rfl (by simp[z0i,z3f,z5i]) fun D B p g i clk T hB hs hD hi hR=> ?_
 have h6:6 ^ e≤6 ^ 4:=b9 (by omega) (by omega)
 have h6':1≤6 ^ e:=Nat.pos_of_ne_zero (by simp)
 have em:=z5b (e:=e) (by omega)
 simp only[go_sem,w8n,hB,nat,em]
 refine z0l hF hB hs hD hi ?_
 rintro v D1 i1 ⟨t1,rfl,ht1⟩ hB1 hD1 hi1
 simp only[go_sem,em]
 refine z0l (hT s h1 h2) hB1 hs hD1 hi1 ?_
 rintro v D2 i2 ⟨t2,rfl,ht2⟩ hB2 hD2 hi2
 simp only[go_sem,em]
 refine z0l (hT s h1 h2) hB2 hs hD2 hi2 ?_
 rintro v D3 i3 ⟨t3,rfl,ht3⟩ hB3 hD3 hi3
 have l1:=ht1.2.1
 have l2:=ht2.2.1
 have l3:=ht3.2.1
 have lb:TB s e≤11 * 6 ^ e:=w8y
 simp only[go_sem,z2w]
 rw[z0a (op3 (o:=10) (i:=10) rfl (by omega) (by omega) (by omega))]
 simp only[go_sem,]
 rw[z0y]
 refine hR _ _ i3 (by rw[z0m hB3 hs];exact hD3) hi3 ⟨_,rfl,(GT.op3 ht1 ht2 ht3 (.ite h1 h2) h1 h2).up (by omega) ?_⟩
 rw[j0w]
 unfold TB
 split <;> omega
theorem q3x {s:Nat} (hl:q7t l) (hV:V.length≤400) (h1:1≤s) (h2:s≤4):GenOk l 154 [nat s,nat 0, .sl (V.map z2b) .no] (x1p V s 3 5):=by
 refine GenOk.of rfl w8k rfl rfl rfl (az:=[nat s,nat 0, .sl (V.map z2b) .no]) rfl (by simp[z0i,z3f,z5i]) fun D B p g i clk T hB hs hD hi hR=> ?_
 simp only[go_sem,v7q,hB,nat,Int.reduceLE,decide_true]
 refine z0l (z3u hl (by decide) (by decide)) hB hs hD hi ?_
 rintro v D1 i1 ⟨r,rfl,hr1,hr2⟩ hB1 hD1 hi1
 simp only[go_sem,hB1]
 refine z8m (fun hc=> ?_) (fun hc=> ?_)
 ·simp only[go_sem,]
  refine z0l (v8j hl h1 h2) hB1 hs hD1 hi1 ?_
  rintro v D2 i2 hv hB2 hD2 hi2
  simp only[go_sem,]
  obtain⟨t,hp,hg⟩:=j0v hv
  rw[z0a hp]
  simp only[go_sem,]
  rw[z0y]
  exact hR _ _ i2 (by rw[z0m hB2 hs];exact hD2) hi2 ⟨t,rfl,(hg V).up (by omega) (by omega)⟩
 ·simp only[go_sem,]
  refine z0l (q1q hl h1 h2 hV) hB1 hs hD1 hi1 ?_
  rintro v D2 i2 ⟨t,rfl,ht⟩ hB2 hD2 hi2
  simp only[go_sem,]
  rw[z0y]
  exact hR _ _ i2 (by rw[z0m hB2 hs];exact hD2) hi2 ⟨t,rfl,ht.up (by omega) (by omega)⟩
end
section
variable {l:List Int} {V:List Var}
theorem q3y {s d:Nat}:∀ {az:List Term},(∀ t∈az,WF V [s] d t)→WF V (x3 az.length s) d az.flatten
 | [],_=> .nil
 | t::az,h=>by
   have:=(h t j7).append (q3y (az:=az) fun q hq=>h q (v7 _ hq))
   simpa [List.replicate_succ] using this
theorem x4x {m:Nat}:∀ {az:List Term},(∀ t∈az,t.length≤m)→az.flatten.length≤az.length * m
 | [],_=>by simp
 | t::az,h=>by
   have h1:=h t j7
   have h2:=x4x (az:=az) fun q hq=>h q (v7 _ hq)
   simp only[List.flatten_cons,List.length_append,v5,Nat.add_mul,Nat.one_mul]
   omega
theorem k7f {e B p g i clk:Nat} {D:List AObj} {ts:Tmps} {a b c d x:AObj} {ks:List Kf} {Q:Post} {n:Nat} (he:e≤3) (hn:n≤3) (hF:q5c l V e) (hB:D.length=B) (hs:p < B) (hD:D[p]? =some (chObj g l i)) (hi:i≤l.length)
  (g0:ts 0= .ptr p g 0 0) (g1:ts 1=nat (e + 1)) (g2:ts 2= .sl (V.map z2b) .no) (g7:ts 7= .sl [] .nil) (g8:ts 8= .int .i64 (n:Int))
  (hQ:∀ (acc:List Term) (t:Tip) (ts':Tmps) (D':List AObj) (i':Nat) (a b c d x:AObj) (clk':Nat),acc.length≤3→(∀ t∈acc,GT V 1 (e + 4) (11 * 6 ^ e) t)→D'.length=B→D'[p]? =some (chObj g l i')→i'≤l.length→ts' 0= .ptr p g 0 0→ts' 7= .sl (acc.map z0w) t→K Gam B (.exit 1) ks ⟨ts',D'++[a,b,c,d,x],clk'⟩ Q):
  K Gam B (.loop j3g) ks ⟨ts,D++[a,b,c,d,x],clk⟩ Q:=by
 refine z1f (fun m q=>∃ (n:Nat) (acc:List Term) (t:Tip) (D:List AObj) (i:Nat) (a b c d x:AObj),m=n∧acc.length + n≤3∧(∀ t∈acc,GT V 1 (e + 4) (11 * 6 ^ e) t)∧D.length=B∧D[p]? =some (chObj g l i)∧i≤l.length∧q.ts 0= .ptr p g 0 0∧q.ts 1=nat (e + 1)∧q.ts 2= .sl (V.map z2b) .no∧q.ts 7= .sl (acc.map z0w) t∧q.ts 8= .int .i64 (n:Int)∧q.h=D++[a,b,c,d,x]∧q3e B 2 c t 1) n ?_ ?_
 ·exact⟨n,[], .nil,D,i,_,_,_,_,_,rfl,by simpa using hn,by simp,hB,hD,hi,g0,g1,g2,g7,g8,rfl, .inl rfl⟩
 clear g0 g1 g2 g7 g8 hB hD hi
 rintro m ⟨ts,h,clk⟩ P ⟨n,acc,t,D,i,a,b,c,d,x,rfl,hlen,hacc,hB,hD,hi,g0,g1,g2,g7,g8,rfl,ht⟩ hnx hex hr
 dsimp only at g0 g1 g2 g7 g8
 have h6:6 ^ e≤6 ^ 4:=b9 (by omega) (by omega)
 have em:=z5b (e:=e) (by omega)
 simp only[go_sem,g0,g1,g2,g7,g8,j3g]
 refine z8m (fun hb=> ?_) (fun hb=> ?_)
 ·have hpos:0 < m:=by simp at hb;omega
  obtain⟨n',rfl⟩:∃ n',m=n' + 1:=⟨m - 1,by omega⟩
  have en:IntKind.i64.wrap (((n' + 1:Nat):Int) - 1)=(n':Int):=z5b (by omega)
  simp only[go_sem,g0,g1,g2,g7,g8,nat,em]
  refine z0l hF hB hs hD hi ?_
  rintro v D1 i1 ⟨t1,rfl,ht1⟩ hB1 hD1 hi1
  simp only[go_sem,g0,g1,g2,g7,g8,z2w]
  rw[show [z0w t1]=[t1].map z0w from rfl,z1c hB1 rfl ht z6a z6a (by simp only[z6,v6];omega)]
  simp only[go_sem,g0,g1,g2,g7,g8,en]
  refine hnx n' _ (by omega) ⟨n',acc++[t1],_,D1,i1,_,_,_,_,_,rfl,by simp;omega, ?_,hB1,hD1,hi1,g0,g1,g2, ?_,rfl,rfl, .inr (.inr ⟨_,rfl,rfl⟩)⟩
  ·intro t' ht'
   rw[x4,y3] at ht'
   rcases ht' with ht' | rfl
   ·exact hacc t' ht'
   ·exact ht1
  ·simp only[z0b,z0,cond_true,cond_false,v8,j4,k8]
 ·simp only[go_sem,]
  refine hex _ _ ?_
  exact hQ acc t _ D i _ _ _ _ _ _ (by omega) hacc hB hD hi (by simp[z0b,g0]) (by simp[z0b,g7])
theorem j0x (hl:q7t l) (hV:V.length≤400):q5c l V 0:=by
 have hA:=k1o (u:= .no) hl hV (x7 3) (x7 5) (by omega) fun s h1 h2=>q3x (s:=s) hl hV (by omega) h2
 refine GenOk.of rfl w8j rfl rfl rfl (az:=[nat 0, .sl (V.map z2b) .no]) rfl (by simp[z0i,z3f,z5i]) fun D B p g i clk T hB hs hD hi hR=> ?_
 simp only[go_sem,v7p,hB,nat,Int.reduceLE,decide_true]
 refine z0l hA hB hs hD hi ?_
 rintro v D1 i1 ⟨t1,rfl,ht1⟩ hB1 hD1 hi1
 simp only[go_sem,]
 rw[z0y]
 exact hR _ _ i1 (by rw[z0m hB1 hs];exact hD1) hi1 ⟨_,rfl,ht1.up (by omega) (by omega)⟩
theorem v3g {e:Nat} (hl:q7t l) (hV:V.length≤400) (he:e≤3) (hF:q5c l V e) (hT:q9r l V e):q5c l V (e + 1):=by
 have hA0:=k1o (u:= .no) hl hV (x7 3) (x7 5) (by omega) fun s h1 h2=>q3x (s:=s) hl hV (by omega) h2
 have h6:6 ^ e≤6 ^ 4:=b9 (by omega) (by omega)
 have h6':1≤6 ^ e:=Nat.pos_of_ne_zero (by simp)
 have hA:=k1o (d:=e) (u:= .no) (k:=e + 4) (m:=5 * 6 ^ e) hl hV (by omega) (by omega) (by omega) fun s h1 h2=>by
  have:=hT s (by omega) h2
  unfold TB at this
  rw[if_neg (by omega)] at this
  exact this
 have hI:=k1p he hF hT
 have e6:6 ^ (e + 1)=6 * 6 ^ e:=by rw[b8,u1]
 refine GenOk.of rfl w8j rfl rfl rfl (az:=[nat (e + 1), .sl (V.map z2b) .no]) rfl (by simp[z0i,z3f,z5i]) fun D B p g i clk T hB hs hD hi hR=> ?_
 have em:=z5b (e:=e) (by omega)
 have e0:decide (((e + 1:Nat):Int)≤0)=false:=by rw[n9];omega
 simp only[go_sem,v7p,hB,nat,e0]
 refine z0l k6s hB hs hD hi ?_
 rintro v D1 i1 ⟨b,rfl⟩ hB1 hD1 hi1
 simp only[go_sem,]
 refine z8m (fun hc=> ?_) (fun hc=> ?_)
 ·simp only[go_sem,]
  refine z0l hA0 hB1 hs hD1 hi1 ?_
  rintro v D2 i2 ⟨t1,rfl,ht1⟩ hB2 hD2 hi2
  simp only[go_sem,]
  rw[z0y]
  exact hR _ _ i2 (by rw[z0m hB2 hs];exact hD2) hi2 ⟨_,rfl,ht1.up (by omega) (by omega)⟩
 clear hD hi hc
 simp only[go_sem,]
 refine z0l (z3u hl (by decide) (by decide)) hB1 hs hD1 hi1 ?_
 rintro v D2 i2 ⟨r,rfl,hr1,hr2⟩ hB2 hD2 hi2
 clear hD1 hi1 hB1
 obtain⟨q,rfl⟩:∃ k:Nat,r=k:=⟨r.toNat,by omega⟩
 have hq:(q=0∨q=1)∨(q=2∨q=3∨q=4∨q=5)∨q=6∨q=7∨q=8∨9≤q:=by omega
 rcases hq with hq | hq | rfl | rfl | rfl | hq
 ·
  rcases hq with rfl | rfl
  all_goals
   simp only[go_sem,z7,decide_true,decide_false,em]
   refine z0l hF hB2 hs hD2 hi2 ?_
   rintro v D3 i3 ⟨t1,rfl,ht1⟩ hB3 hD3 hi3
   have l1:=ht1.2.1
   simp only[go_sem,z2w]
   rw[z0a (op1 (o:=6) (i:=6) rfl (by omega))]
   simp only[go_sem,]
   rw[z0y]
   exact hR _ _ i3 (by rw[z0m hB3 hs];exact hD3) hi3 ⟨_,rfl,(GT.op1 ht1 .not (by omega) (by omega)).up (by omega) (by omega)⟩
 ·
  rcases hq with rfl | rfl | rfl | rfl
  all_goals
   simp only[go_sem,z7,decide_true,decide_false,em]
   refine z0l (z3u hl (by decide) (by decide)) hB2 hs hD2 hi2 ?_
   rintro v D3 i3 ⟨r3,rfl,hr3,hr4⟩ hB3 hD3 hi3
   obtain⟨n,rfl⟩:∃ k:Nat,r3=k:=⟨r3.toNat,by omega⟩
   simp only[go_sem,]
   refine k7f (n:=n) (i:=i3) he (by omega) hF hB3 hs hD3 hi3 rfl rfl rfl rfl rfl ?_
   intro acc t ts' D4 i4 a1 a2 a3 a4 a5 clk' hlen hacc hB4 hD4 hi4 g0 g7
   simp only[go_sem,g0,g7]
   refine z0l (z3u hl (by decide) (by decide)) hB4 hs hD4 hi4 ?_
   rintro v D5 i5 ⟨r5,rfl,hr5,hr6⟩ hB5 hD5 hi5
   obtain⟨z,rfl⟩:∃ k:Nat,r5=k:=⟨r5.toNat,by omega⟩
   have e7:IntKind.i64.wrap (7 + (z:Int))=((7 + z:Nat):Int):=by rw[z0c (by omega) (by omega)];omega
   have hfl:=x4x (m:=11 * 6 ^ e) (az:=acc) fun t ht=>(hacc t ht).2.1
   have hfl2:acc.length * (11 * 6 ^ e)≤3 * (11 * 6 ^ e):=w8 _ hlen
   simp only[go_sem,g0,g7,e7]
   rw[z0a (opn (o:=7 + z) (l:=acc) rfl (by omega) (by omega))]
   simp only[go_sem,]
   rw[z0y]
   refine hR _ _ i5 (by rw[z0m hB5 hs];exact hD5) hi5 ⟨_,rfl,⟨(WF.one (q3y fun t ht=>(hacc t ht).1) (.andor (by omega)) (by simp[bare])).up (by omega),by rw[v5];omega,by omega,by omega⟩⟩
 ·
  simp only[go_sem,z7,decide_true,decide_false,em]
  refine z0l hF hB2 hs hD2 hi2 ?_
  rintro v D3 i3 ⟨t1,rfl,ht1⟩ hB3 hD3 hi3
  simp only[go_sem,em]
  refine z0l hF hB3 hs hD3 hi3 ?_
  rintro v D4 i4 ⟨t2,rfl,ht2⟩ hB4 hD4 hi4
  have l1:=ht1.2.1
  have l2:=ht2.2.1
  simp only[go_sem,z2w]
  rw[z0a (op2 (o:=9) (i:=9) rfl (by omega) (by omega))]
  simp only[go_sem,]
  rw[z0y]
  exact hR _ _ i4 (by rw[z0m hB4 hs];exact hD4) hi4 ⟨_,rfl,(GT.op2 ht1 ht2 .imp (by omega) (by omega)).up (by omega) (by omega)⟩
 ·
  simp only[go_sem,z7,decide_true,decide_false,em]
  refine z0l (hI 1 (by omega) (by omega)) hB2 hs hD2 hi2 ?_
  rintro v D3 i3 ⟨t1,rfl,ht1⟩ hB3 hD3 hi3
  simp only[go_sem,]
  rw[z0y]
  exact hR _ _ i3 (by rw[z0m hB3 hs];exact hD3) hi3 ⟨_,rfl,ht1⟩
 ·
  simp only[go_sem,z7,decide_true,decide_false,em]
  refine z0l hF hB2 hs hD2 hi2 ?_
  rintro v D3 i3 ⟨t1,rfl,ht1⟩ hB3 hD3 hi3
  simp only[go_sem,em]
  refine z0l hF hB3 hs hD3 hi3 ?_
  rintro v D4 i4 ⟨t2,rfl,ht2⟩ hB4 hD4 hi4
  have l1:=ht1.2.1
  have l2:=ht2.2.1
  simp only[go_sem,z2w]
  rw[z0a (op2 (o:=11) (i:=11) rfl (by omega) (by omega))]
  simp only[go_sem,]
  rw[z0y]
  exact hR _ _ i4 (by rw[z0m hB4 hs];exact hD4) hi4 ⟨_,rfl,(GT.op2 ht1 ht2 (.eq (by omega) (by omega)) (by omega) (by omega)).up (by omega) (by omega)⟩
 ·
  have d0:∀ k:Int,0≤k→k < 9→decide ((q:Int)=k)=false:=fun k h1 h2=>by rw[n9];omega
  simp only[go_sem,d0 0 (by decide) (by decide),d0 1 (by decide) (by decide),d0 2 (by decide) (by decide),d0 3 (by decide) (by decide),d0 4 (by decide) (by decide),d0 5 (by decide) (by decide),d0 6 (by decide) (by decide),d0 7 (by decide) (by decide),d0 8 (by decide) (by decide),em]
  refine z0l hA hB2 hs hD2 hi2 ?_
  rintro v D3 i3 ⟨t1,rfl,ht1⟩ hB3 hD3 hi3
  simp only[go_sem,]
  rw[z0y]
  exact hR _ _ i3 (by rw[z0m hB3 hs];exact hD3) hi3 ⟨_,rfl,ht1.up (by omega) (by omega)⟩
end
section
variable {l:List Int} {V:List Var}
def y7u (s:Nat) (a:List Nat):Prop:=(s=2∧IntS a)∨(s=3∧RatS a)
def x1q (l:List Int):Prop:=∀ s,s=2∨s=3→GenOk l 272 [nat s] fun v=>∃ a,v= .str a∧y7u s a
theorem GT.num {s:Nat} {a:List Nat} (h:y7u s a):GT V s 1 1 [⟨3,s,[],a,0⟩]:=by
 rcases h with ⟨rfl,h⟩ | ⟨rfl,h⟩
 ·exact GT.leaf (.int h) rfl (by omega) (by omega)
 ·exact GT.leaf (.real h) rfl (by omega) (by omega)
theorem w9a {e B p g i s clk:Nat} {D:List AObj} {ts:Tmps} {a b c d x y z:AObj} {ks:List Kf} {Q:Post} {n:Nat} {t0:Term} (he:e≤3) (hn:n≤2) (h1:1≤s) (h2:s≤4) (hT:q9r l V e) (hB:D.length=B) (hs:p < B) (hD:D[p]? =some (chObj g l i)) (hi:i≤l.length)
  (g0:ts 0= .ptr p g 0 0) (gs:ts 1=nat s) (g1:ts 2=nat (e + 1)) (g2:ts 3= .sl (V.map z2b) .no) (g7:ts 10= .sl [z0w t0] .full) (g8:ts 11= .int .i64 (n:Int)) (ht0:GT V s (e + 4) (TB s e) t0)
  (hQ:∀ (acc:List Term) (t:Tip) (ts':Tmps) (D':List AObj) (i':Nat) (a b c d x y z:AObj) (clk':Nat),1≤acc.length→acc.length≤3→(∀ t∈acc,GT V s (e + 4) (TB s e) t)→D'.length=B→D'[p]? =some (chObj g l i')→i'≤l.length→ts' 0= .ptr p g 0 0→ts' 10= .sl (acc.map z0w) t→K Gam B (.exit 1) ks ⟨ts',D'++[a,b,c,d,x,y,z],clk'⟩ Q):
  K Gam B (.loop j3h) ks ⟨ts,D++[a,b,c,d,x,y,z],clk⟩ Q:=by
 refine z1f (fun m q=>∃ (n:Nat) (acc:List Term) (t:Tip) (D:List AObj) (i:Nat) (a b c d x y z:AObj),m=n∧1≤acc.length∧acc.length + n≤3∧(∀ t∈acc,GT V s (e + 4) (TB s e) t)∧D.length=B∧D[p]? =some (chObj g l i)∧i≤l.length∧q.ts 0= .ptr p g 0 0∧q.ts 1=nat s∧q.ts 2=nat (e + 1)∧q.ts 3= .sl (V.map z2b) .no∧q.ts 10= .sl (acc.map z0w) t∧q.ts 11= .int .i64 (n:Int)∧q.h=D++[a,b,c,d,x,y,z]∧q3e B 2 c t 1) n ?_ ?_
 ·exact⟨n,[t0], .full,D,i,_,_,_,_,_,_,_,rfl,by simp,by simp;omega,by simpa using ht0,hB,hD,hi,g0,gs,g1,g2,g7,g8,rfl, .inr (.inl rfl)⟩
 clear g0 gs g1 g2 g7 g8 hB hD hi
 rintro m ⟨ts,h,clk⟩ P ⟨n,acc,t,D,i,a,b,c,d,x,y,z,rfl,hlen1,hlen,hacc,hB,hD,hi,g0,gs,g1,g2,g7,g8,rfl,ht⟩ hnx hex hr
 dsimp only at g0 gs g1 g2 g7 g8
 have em:=z5b (e:=e) (by omega)
 simp only[go_sem,g0,gs,g1,g2,g7,g8,j3h]
 refine z8m (fun hb=> ?_) (fun hb=> ?_)
 ·have hpos:0 < m:=by simp at hb;omega
  obtain⟨n',rfl⟩:∃ n',m=n' + 1:=⟨m - 1,by omega⟩
  have en:IntKind.i64.wrap (((n' + 1:Nat):Int) - 1)=(n':Int):=z5b (by omega)
  simp only[go_sem,g0,gs,g1,g2,g7,g8,nat,em]
  refine z0l (hT s h1 h2) hB hs hD hi ?_
  rintro v D1 i1 ⟨t1,rfl,ht1⟩ hB1 hD1 hi1
  simp only[go_sem,g0,gs,g1,g2,g7,g8,z2w]
  rw[show [z0w t1]=[t1].map z0w from rfl,z1c hB1 rfl ht z6a z6a (by simp only[z6,v6];omega)]
  simp only[go_sem,g0,gs,g1,g2,g7,g8,en]
  refine hnx n' _ (by omega) ⟨n',acc++[t1],_,D1,i1,_,_,_,_,_,_,_,rfl,by simp,by simp;omega, ?_,hB1,hD1,hi1,g0,gs,g1,g2, ?_,rfl,rfl, .inr (.inr ⟨_,rfl,rfl⟩)⟩
  ·intro t' ht'
   rw[x4,y3] at ht'
   rcases ht' with ht' | rfl
   ·exact hacc t' ht'
   ·exact ht1
  ·simp only[z0b,z0,cond_true,cond_false,v8,j4,k8]
 ·simp only[go_sem,]
  refine hex _ _ ?_
  exact hQ acc t _ D i _ _ _ _ _ _ _ _ hlen1 (by omega) hacc hB hD hi (by simp[z0b,g0]) (by simp[z0b,g7])
theorem w9b {e:Nat} (hl:q7t l) (hV:V.length≤400) (he:e≤3) (hN:x1q l) (hF:q5c l V e) (hT:q9r l V e):u6h l V (e + 1):=by
 intro s hs23
 have h1:1≤s:=by omega
 have h2:s≤4:=by omega
 have hI:=k1p he hF hT
 have h6:6 ^ e≤6 ^ 4:=b9 (by omega) (by omega)
 have h6':1≤6 ^ e:=Nat.pos_of_ne_zero (by simp)
 have hTB:TB s (e + 1)=30 * 6 ^ e:=by rw[j0w];unfold TB;rw[if_neg (by omega)];omega
 have hTB2:TB s e=5 * 6 ^ e:=by unfold TB;rw[if_neg (by omega)]
 have hTB4:TB 4 e=5 * 6 ^ e:=by unfold TB;rw[if_neg (by omega)]
 refine GenOk.of rfl y7k rfl rfl rfl (az:=[nat s,nat (e + 1), .sl (V.map z2b) .no]) rfl (by simp[z0i,z3f,z5i]) fun D B p g i clk T hB hs hD hi hR=> ?_
 have em:=z5b (e:=e) (by omega)
 simp only[go_sem,w8o,hB,nat]
 refine z0l (z3u hl (by decide) (by decide)) hB hs hD hi ?_
 rintro v D2 i2 ⟨r,rfl,hr1,hr2⟩ hB2 hD2 hi2
 obtain⟨q,rfl⟩:∃ k:Nat,r=k:=⟨r.toNat,by omega⟩
 have hq:q < 3∨(3≤q∧q < 5)∨q=5∨q=6∨q=7∨q=8∨q=9:=by omega
 rcases hq with hq | hq | rfl | rfl | rfl | rfl | rfl
 ·
  have e3:decide ((q:Int) < 3)=true:=by rw[r8];omega
  simp only[go_sem,e3,em]
  refine z0l (hT s h1 h2) hB2 hs hD2 hi2 ?_
  rintro v D3 i3 ⟨t1,rfl,ht1⟩ hB3 hD3 hi3
  simp only[go_sem,z2w]
  refine z0l (z3u hl (by decide) (by decide)) hB3 hs hD3 hi3 ?_
  rintro v D4 i4 ⟨r4,rfl,hr3,hr4⟩ hB4 hD4 hi4
  obtain⟨n,rfl⟩:∃ k:Nat,r4=k:=⟨r4.toNat,by omega⟩
  simp only[go_sem,]
  refine w9a (n:=n) (i:=i4) he (by omega) h1 h2 hT hB4 hs hD4 hi4 rfl rfl rfl rfl rfl rfl ht1 ?_
  intro acc t ts' D5 i5 a1 a2 a3 a4 a5 a6 a7 clk' hlen1 hlen hacc hB5 hD5 hi5 g0 g7
  have hfl:=x4x (m:=TB s e) (az:=acc) fun t ht=>(hacc t ht).2.1
  have hfl2:acc.length * TB s e≤3 * TB s e:=w8 _ hlen
  simp only[go_sem,g0,g7]
  rw[z0a (opn (o:=14) (i:=14) (l:=acc) rfl (by omega) (by omega))]
  simp only[go_sem,]
  rw[z0y]
  refine hR _ _ i5 (by rw[z0m hB5 hs];exact hD5) hi5 ⟨_,rfl,⟨(WF.one (q3y fun t ht=>(hacc t ht).1) (.add hlen1 hs23) (by simp[bare])).up (by omega),by rw[v5];omega,by omega,by omega⟩⟩
 ·
  have e3:decide ((q:Int) < 3)=false:=by rw[n9];omega
  have e5:decide ((q:Int) < 5)=true:=by rw[r8];omega
  simp only[go_sem,e3,e5,em]
  refine z0l (hN s hs23) hB2 hs hD2 hi2 ?_
  rintro v D3 i3 ⟨a,rfl,ha⟩ hB3 hD3 hi3
  simp only[go_sem,em]
  have hp:=x4u (s:=s) (a:=a)
  rw[nat] at hp
  rw[z0a hp]
  simp only[go_sem,em]
  refine z0l (hT s h1 h2) hB3 hs hD3 hi3 ?_
  rintro v D4 i4 ⟨t1,rfl,ht1⟩ hB4 hD4 hi4
  have l1:=ht1.2.1
  simp only[go_sem,z2w]
  rw[z0a (op2 (o:=15) (i:=15) rfl (by simp) (by omega))]
  simp only[go_sem,]
  rw[z0y]
  exact hR _ _ i4 (by rw[z0m hB4 hs];exact hD4) hi4 ⟨_,rfl,(GT.op2 ((GT.num ha).up (d':=e + 4) (m':=1) (by omega) (by omega)) ht1 (.mul hs23 rfl) (by omega) (by omega)).up (by omega) (by omega)⟩
 ·
  simp only[go_sem,z7,u6,decide_true,decide_false]
  refine z0l (hI s h1 h2) hB2 hs hD2 hi2 ?_
  rintro v D3 i3 ⟨t1,rfl,ht1⟩ hB3 hD3 hi3
  simp only[go_sem,]
  rw[z0y]
  exact hR _ _ i3 (by rw[z0m hB3 hs];exact hD3) hi3 ⟨_,rfl,ht1⟩
 ·
  rcases hs23 with rfl | rfl
  ·simp only[go_sem,z7,u6,decide_true,decide_false]
   refine z0l (z3u hl (by decide) (by decide)) hB2 hs hD2 hi2 ?_
   rintro v D3 i3 ⟨r3,rfl,hr3,hr4⟩ hB3 hD3 hi3
   obtain⟨z,rfl⟩:∃ k:Nat,r3=k:=⟨r3.toNat,by omega⟩
   have e7:IntKind.i64.wrap (16 + (z:Int))=((16 + z:Nat):Int):=by rw[z0c (by omega) (by omega)];omega
   simp only[go_sem,e7]
   refine z0l (z3u hl (by decide) (by decide)) hB3 hs hD3 hi3 ?_
   rintro v D4 i4 ⟨r5,rfl,hr5,hr6⟩ hB4 hD4 hi4
   obtain⟨y,rfl⟩:∃ k:Nat,r5=k:=⟨r5.toNat,by omega⟩
   have e8:IntKind.i64.wrap (1 + (y:Int))=((1 + y:Nat):Int):=by rw[z0c (by omega) (by omega)];omega
   simp only[go_sem,e8]
   rw[z0a (z7p (by omega) (by omega)),z0f,if_neg (by omega),Int.natAbs_natCast]
   simp only[go_sem,hB4,z1p,em]
   refine z0l (hT 2 h1 h2) hB4 hs hD4 hi4 ?_
   rintro v D5 i5 ⟨t1,rfl,ht1⟩ hB5 hD5 hi5
   have l1:=ht1.2.1
   simp only[go_sem,z2w]
   have hp:Pure Gam 155 [.agg [.int .i64 ((16 + z:Nat):Int), .int .i64 0, .str [], .str (dec (1 + y)), .int .i64 0], .sl [z0w t1] .full] _:=k1i (n:=⟨16 + z,0,[],dec (1 + y),0⟩) (l:=[t1]) (u:= .full) (by simp) (by simp;omega)
   rw[z0a hp]
   simp only[go_sem,]
   refine⟨by simp[z1r,apart,z0q,z1n,z1t,AOp.isCall,hB4];omega, ?_⟩
   rw[z0y]
   refine hR _ _ i5 (by rw[z0m hB5 hs];exact hD5) hi5 ⟨_,rfl, ?_⟩
   have:=WF.one (n:=⟨16 + z,0,[],dec (1 + y),1⟩) ht1.1 (.div (by omega) (by omega) (by omega)) rfl
   refine⟨?_,by simp;omega,by omega,by omega⟩
   simpa using this
  ·simp only[go_sem,z7,u6,decide_true,decide_false]
   refine z0l (q1q hl h1 h2 hV) hB2 hs hD2 hi2 ?_
   rintro v D3 i3 ⟨t1,rfl,ht1⟩ hB3 hD3 hi3
   simp only[go_sem,]
   rw[z0y]
   exact hR _ _ i3 (by rw[z0m hB3 hs];exact hD3) hi3 ⟨_,rfl,ht1.up (by omega) (by omega)⟩
 ·
  rcases hs23 with rfl | rfl
  ·simp only[go_sem,z7,u6,decide_true,decide_false,em]
   refine z0l (hT 4 (by omega) (by omega)) hB2 hs hD2 hi2 ?_
   rintro v D3 i3 ⟨t1,rfl,ht1⟩ hB3 hD3 hi3
   simp only[go_sem,em]
   refine z0l (hT 2 h1 h2) hB3 hs hD3 hi3 ?_
   rintro v D4 i4 ⟨t2,rfl,ht2⟩ hB4 hD4 hi4
   have l1:=ht1.2.1
   have l2:=ht2.2.1
   simp only[go_sem,z2w]
   rw[z0a (op2 (o:=18) (i:=18) rfl (by omega) (by omega))]
   simp only[go_sem,]
   rw[z0y]
   exact hR _ _ i4 (by rw[z0m hB4 hs];exact hD4) hi4 ⟨_,rfl,(GT.op2 ht1 ht2 .select (by omega) (by omega)).up (by omega) (by omega)⟩
  ·simp only[go_sem,z7,u6,decide_true,decide_false]
   refine z0l (q1q hl h1 h2 hV) hB2 hs hD2 hi2 ?_
   rintro v D3 i3 ⟨t1,rfl,ht1⟩ hB3 hD3 hi3
   simp only[go_sem,]
   rw[z0y]
   exact hR _ _ i3 (by rw[z0m hB3 hs];exact hD3) hi3 ⟨_,rfl,ht1.up (by omega) (by omega)⟩
 ·
  simp only[go_sem,z7,u6,decide_true,decide_false]
  refine z0l (hN s hs23) hB2 hs hD2 hi2 ?_
  rintro v D3 i3 ⟨a,rfl,ha⟩ hB3 hD3 hi3
  simp only[go_sem,]
  have hp:=x4u (s:=s) (a:=a)
  rw[nat] at hp
  rw[z0a hp]
  simp only[go_sem,]
  rw[z0y]
  exact hR _ _ i3 (by rw[z0m hB3 hs];exact hD3) hi3 ⟨_,rfl,(GT.num ha).up (by omega) (by omega)⟩
 ·
  simp only[go_sem,z7,u6,decide_true,decide_false]
  refine z0l (q1q hl h1 h2 hV) hB2 hs hD2 hi2 ?_
  rintro v D3 i3 ⟨t1,rfl,ht1⟩ hB3 hD3 hi3
  simp only[go_sem,]
  rw[z0y]
  exact hR _ _ i3 (by rw[z0m hB3 hs];exact hD3) hi3 ⟨_,rfl,ht1.up (by omega) (by omega)⟩
end
section
variable {l:List Int} {V:List Var}
theorem w9c {e:Nat} (hl:q7t l) (hV:V.length≤400) (he:e≤3) (hN:x1q l) (hF:q5c l V e) (hT:q9r l V e):q9r l V (e + 1):=by
 intro s h1 h2
 have hI:=k1p he hF hT
 have hA:=w9b hl hV he hN hF hT
 have hF1:=v3g hl hV he hF hT
 have h6:6 ^ e≤6 ^ 4:=b9 (by omega) (by omega)
 have h6':1≤6 ^ e:=Nat.pos_of_ne_zero (by simp)
 have hTB:5 * 6 ^ e≤TB s e:=w8z
 have hTBs:=j0w (s:=s) (e:=e)
 have hT2:TB 2 e=5 * 6 ^ e:=rfl
 have hT4:TB 4 e=5 * 6 ^ e:=rfl
 refine GenOk.of rfl w8k rfl rfl rfl (az:=[nat s,nat (e + 1), .sl (V.map z2b) .no]) rfl (by simp[z0i,z3f,z5i]) fun D B p g i clk T hB hs hD hi hR=> ?_
 have em:=z5b (e:=e) (by omega)
 have e0:decide (((e + 1:Nat):Int)≤0)=false:=by rw[n9];omega
 simp only[go_sem,v7q,hB,nat,e0]
 refine z0l k6s hB hs hD hi ?_
 rintro v D1 i1 ⟨b,rfl⟩ hB1 hD1 hi1
 simp only[go_sem,]
 refine z8m (fun hc=> ?_) (fun hc=> ?_)
 ·simp only[go_sem,]
  refine z0l (z3u hl (by decide) (by decide)) hB1 hs hD1 hi1 ?_
  rintro v D2 i2 ⟨r,rfl,hr1,hr2⟩ hB2 hD2 hi2
  simp only[go_sem,]
  refine z8m (fun hc=> ?_) (fun hc=> ?_)
  ·simp only[go_sem,]
   refine z0l (v8j hl h1 h2) hB2 hs hD2 hi2 ?_
   rintro v D3 i3 hv hB3 hD3 hi3
   simp only[go_sem,]
   obtain⟨t,hp,hg⟩:=j0v hv
   rw[z0a hp]
   simp only[go_sem,]
   rw[z0y]
   exact hR _ _ i3 (by rw[z0m hB3 hs];exact hD3) hi3 ⟨t,rfl,(hg V).up (by omega) (by omega)⟩
  ·simp only[go_sem,]
   refine z0l (q1q hl h1 h2 hV) hB2 hs hD2 hi2 ?_
   rintro v D3 i3 ⟨t,rfl,ht⟩ hB3 hD3 hi3
   simp only[go_sem,]
   rw[z0y]
   exact hR _ _ i3 (by rw[z0m hB3 hs];exact hD3) hi3 ⟨t,rfl,ht.up (by omega) (by omega)⟩
 clear hD hi hc
 obtain rfl | hs23 | rfl:s=1∨(s=2∨s=3)∨s=4:=by omega
 ·simp only[go_sem,z7,decide_true,decide_false]
  refine z0l hF1 hB1 hs hD1 hi1 ?_
  rintro v D3 i3 ⟨t1,rfl,ht1⟩ hB3 hD3 hi3
  simp only[go_sem,]
  rw[z0y]
  exact hR _ _ i3 (by rw[z0m hB3 hs];exact hD3) hi3 ⟨_,rfl,ht1⟩
 ·have e1:decide ((s:Int)=1)=false:=by rw[n9];omega
  have e2:decide ((s:Int)=4)=false:=by rw[n9];omega
  simp only[go_sem,e1,e2]
  refine z0l (hA s hs23) hB1 hs hD1 hi1 ?_
  rintro v D3 i3 ⟨t1,rfl,ht1⟩ hB3 hD3 hi3
  simp only[go_sem,]
  rw[z0y]
  exact hR _ _ i3 (by rw[z0m hB3 hs];exact hD3) hi3 ⟨_,rfl,ht1⟩
 ·simp only[go_sem,z7,decide_true,decide_false]
  refine z0l (z3u hl (by decide) (by decide)) hB1 hs hD1 hi1 ?_
  rintro v D2 i2 ⟨r,rfl,hr1,hr2⟩ hB2 hD2 hi2
  obtain⟨q,rfl⟩:∃ k:Nat,r=k:=⟨r.toNat,by omega⟩
  obtain rfl | hq | rfl | rfl:q=0∨(q=1∨q=2)∨q=3∨q=4:=by omega
  ·simp only[go_sem,z7,decide_true,decide_false,em]
   refine z0l (hT 2 (by omega) (by omega)) hB2 hs hD2 hi2 ?_
   rintro v D3 i3 ⟨t1,rfl,ht1⟩ hB3 hD3 hi3
   have l1:=ht1.2.1
   simp only[go_sem,z2w]
   rw[z0a (op1 (o:=20) (i:=20) rfl (by omega))]
   simp only[go_sem,]
   rw[z0y]
   exact hR _ _ i3 (by rw[z0m hB3 hs];exact hD3) hi3 ⟨_,rfl,(GT.op1 ht1 .const (by omega) (by omega)).up (by omega) (by omega)⟩
  ·rcases hq with rfl | rfl
   all_goals
    simp only[go_sem,z7,decide_true,decide_false,em]
    refine z0l (hT 4 (by omega) (by omega)) hB2 hs hD2 hi2 ?_
    rintro v D3 i3 ⟨t1,rfl,ht1⟩ hB3 hD3 hi3
    simp only[go_sem,em]
    refine z0l (hT 2 (by omega) (by omega)) hB3 hs hD3 hi3 ?_
    rintro v D4 i4 ⟨t2,rfl,ht2⟩ hB4 hD4 hi4
    simp only[go_sem,em]
    refine z0l (hT 2 (by omega) (by omega)) hB4 hs hD4 hi4 ?_
    rintro v D5 i5 ⟨t3,rfl,ht3⟩ hB5 hD5 hi5
    have l1:=ht1.2.1
    have l2:=ht2.2.1
    have l3:=ht3.2.1
    simp only[go_sem,z2w]
    rw[z0a (op3 (o:=19) (i:=19) rfl (by omega) (by omega) (by omega))]
    simp only[go_sem,]
    rw[z0y]
    exact hR _ _ i5 (by rw[z0m hB5 hs];exact hD5) hi5 ⟨_,rfl,(GT.op3 ht1 ht2 ht3 .store (by omega) (by omega)).up (by omega) (by omega)⟩
  ·simp only[go_sem,z7,decide_true,decide_false]
   refine z0l (hI 4 (by omega) (by omega)) hB2 hs hD2 hi2 ?_
   rintro v D3 i3 ⟨t1,rfl,ht1⟩ hB3 hD3 hi3
   simp only[go_sem,]
   rw[z0y]
   exact hR _ _ i3 (by rw[z0m hB3 hs];exact hD3) hi3 ⟨_,rfl,ht1⟩
  ·simp only[go_sem,z7,decide_true,decide_false]
   refine z0l (q1q hl h1 h2 hV) hB2 hs hD2 hi2 ?_
   rintro v D3 i3 ⟨t1,rfl,ht1⟩ hB3 hD3 hi3
   simp only[go_sem,]
   rw[z0y]
   exact hR _ _ i3 (by rw[z0m hB3 hs];exact hD3) hi3 ⟨_,rfl,ht1.up (by omega) (by omega)⟩
theorem q5d (hl:q7t l) (hV:V.length≤400) (hN:x1q l):∀ d,d≤4→q9r l V d∧q5c l V d
 | 0,_=>by
   refine⟨fun s h1 h2 h p g i clk Q hs hi hQ=> ?_,j0x hl hV⟩
   refine q3x hl hV h1 h2 h p g i clk Q hs hi fun v i' hi' hv=>hQ v i' hi' ?_
   obtain⟨t,rfl,ht⟩:=hv
   have:=w8z (s:=s) (e:=0)
   exact⟨t,rfl,ht.up (by omega) (by omega)⟩
 | d + 1,hd=>by
   obtain⟨hT,hF⟩:=q5d hl hV hN d (by omega)
   exact⟨w9c hl hV (by omega) hN hF hT,v3g hl hV (by omega) hF hT⟩
end
section
variable {l:List Int} {V:List Var}
def j0y (l:List Int) (V:List Var) (d:Nat):Prop:=GenOk l 69 [nat d, .sl (V.map z2b) .no] (x1p V 1 (d + 8) (400 * 2 ^ d - 1))
theorem k1q {s k:Nat} (hs:s=2∨s=3) (h:k < 10):y7u s [48 + k]:=by
 rcases hs with rfl | rfl
 ·exact .inl ⟨rfl,x4v h⟩
 ·exact .inr ⟨rfl, .inl (x4v h)⟩
theorem w9d {d:Nat} (hl:q7t l) (hV:V.length≤400) (hd:d≤6) (hF:q5c l V 2) (hG:∀ e,d=e + 1→j0y l V e):j0y l V d:=by
 have h2d:1≤2 ^ d:=Nat.pos_of_ne_zero (by simp)
 have hF2:11 * 6 ^ 2=396:=rfl
 refine GenOk.of rfl u2j rfl rfl rfl (az:=[nat d, .sl (V.map z2b) .no]) rfl (by simp[z0i,z3f,z5i]) fun D B p g i clk T hB hs hD hi hR=> ?_
 simp only[go_sem,u2i,hB,nat]
 refine z0l (z3u hl (by decide) (by decide)) hB hs hD hi ?_
 rintro v D2 i2 ⟨r,rfl,hr1,hr2⟩ hB2 hD2 hi2
 obtain⟨q,rfl⟩:∃ k:Nat,r=k:=⟨r.toNat,by omega⟩
 have hb0:(decide ((d:Int)≤0)=true∧d=0)∨(decide ((d:Int)≤0)=false∧∃ e,d=e + 1):=by
  rcases Nat.eq_zero_or_pos d with rfl | h
  ·exact .inl ⟨rfl,rfl⟩
  ·exact .inr ⟨by rw[n9];omega,d - 1,by omega⟩
 have F0:∀ (D:List AObj) (i:Nat) (L:List AObj),D.length=B→D[p]? =some (chObj g l i)→i≤l.length→T (z0w [⟨1,0,[],[],0⟩]) (D++L):=fun D i L h1 h2 h3=>hR _ _ i (by rw[z0m h1 hs];exact h2) h3 ⟨_,rfl,(GT.leaf (n:=bare 1 0) (.bool (.inl rfl)) rfl (by omega) (by omega)).up (by omega) (by omega)⟩
 obtain rfl | rfl | rfl | hq | rfl:q=0∨q=1∨q=2∨(q=3∨q=4)∨q=5:=by omega
 ·rcases hb0 with ⟨hb0,_⟩ | ⟨hb0,_⟩
  all_goals
   simp only[go_sem,hb0,z7,decide_true,decide_false,z8,x6]
   rw[z0a j0u]
   simp only[go_sem,if_true]
   rw[z0y]
   exact F0 D2 i2 _ hB2 hD2 hi2
 ·rcases hb0 with ⟨hb0,_⟩ | ⟨hb0,_⟩
  all_goals
   simp only[go_sem,hb0,z7,decide_true,decide_false,z8,x6]
   refine z0l (q1q (s:=2) hl (by omega) (by omega) hV) hB2 hs hD2 hi2 ?_
   rintro v D3 i3 ⟨t1,rfl,ht1⟩ hB3 hD3 hi3
   have l1:=ht1.2.1
   simp only[go_sem,]
   refine z0l (z3u hl (by decide) (by decide)) hB3 hs hD3 hi3 ?_
   rintro v D4 i4 ⟨r4,rfl,hr3,hr4⟩ hB4 hD4 hi4
   obtain⟨n,rfl⟩:∃ k:Nat,r4=k:=⟨r4.toNat,by omega⟩
   simp only[go_sem,]
   rw[z0a (z7p (by omega) (by omega)),z3c (by omega)]
   simp only[go_sem,]
   have hp:Pure Gam 121 [.int .i64 2, .str [48 + n]] _:=x4u (s:=2) (a:=[48 + n])
   rw[z0a hp]
   simp only[go_sem,z2w]
   rw[z0a (op2 (o:=12) (i:=12) rfl (by omega) (by simp))]
   simp only[go_sem,]
   rw[z0y]
   exact hR _ _ i4 (by rw[z0m hB4 hs];exact hD4) hi4 ⟨_,rfl,(GT.op2 ht1 ((GT.num (k1q (s:=2) (k:=n) (.inl rfl) (by omega))).up (d':=3) (m':=1) (by omega) (by omega)) (.cmp (.inl rfl) (.inl rfl)) (by omega) (by omega)).up (by omega) (by omega)⟩
 ·rcases hb0 with ⟨hb0,_⟩ | ⟨hb0,_⟩
  all_goals
   simp only[go_sem,hb0,z7,decide_true,decide_false,z8,x6]
   refine z0l (q1q (s:=2) hl (by omega) (by omega) hV) hB2 hs hD2 hi2 ?_
   rintro v D3 i3 ⟨t1,rfl,ht1⟩ hB3 hD3 hi3
   have l1:=ht1.2.1
   simp only[go_sem,]
   refine z0l (q1q (s:=2) hl (by omega) (by omega) hV) hB3 hs hD3 hi3 ?_
   rintro v D4 i4 ⟨t2,rfl,ht2⟩ hB4 hD4 hi4
   have l2:=ht2.2.1
   simp only[go_sem,]
   refine z0l (z3u hl (by decide) (by decide)) hB4 hs hD4 hi4 ?_
   rintro v D5 i5 ⟨r4,rfl,hr3,hr4⟩ hB5 hD5 hi5
   obtain⟨n,rfl⟩:∃ k:Nat,r4=k:=⟨r4.toNat,by omega⟩
   simp only[go_sem,]
   rw[z0a (z7p (by omega) (by omega)),z3c (by omega)]
   simp only[go_sem,]
   have hp:Pure Gam 121 [.int .i64 2, .str [48 + n]] _:=x4u (s:=2) (a:=[48 + n])
   rw[z0a hp]
   simp only[go_sem,z2w]
   have hadd:=GT.op2 (o:=14) ht2 ((GT.num (V:=V) (k1q (s:=2) (k:=n) (.inl rfl) (by omega))).up (d':=3) (m':=1) (by omega) (by omega)) (.add (k:=2) (by omega) (.inl rfl)) (by omega) (by omega)
   rw[z0a (op2 (o:=14) (i:=14) rfl (by omega) (by simp))]
   simp only[go_sem,z2w]
   rw[z0a (op2 (o:=11) (i:=11) rfl (by omega) (by have:=hadd.2.1;omega))]
   simp only[go_sem,]
   rw[z0y]
   exact hR _ _ i5 (by rw[z0m hB5 hs];exact hD5) hi5 ⟨_,rfl,(GT.op2 (ht1.up (d':=4) (m':=5) (by omega) (by omega)) hadd (.eq (by omega) (by omega)) (by omega) (by omega)).up (by omega) (by omega)⟩
 ·rcases hb0 with ⟨hb0,hd0⟩ | ⟨hb0,e,rfl⟩
  ·rcases hq with rfl | rfl
   all_goals
    simp only[go_sem,hb0,z7,decide_true,decide_false,z8,x6]
    rw[z0a j0u]
    simp only[go_sem,if_true]
    rw[z0y]
    exact F0 D2 i2 _ hB2 hD2 hi2
  ·have em:=z5b (e:=e) (by omega)
   have hg:=hG e rfl
   have hpow:2 ^ (e + 1)=2 * 2 ^ e:=by rw[b8,u1]
   have h2e:2 ^ e≤2 ^ 6:=b9 (by omega) (by omega)
   rcases hq with rfl | rfl
   ·simp only[go_sem,hb0,z7,decide_true,decide_false,z8,x6,em]
    refine z0l hg hB2 hs hD2 hi2 ?_
    rintro v D3 i3 ⟨t1,rfl,ht1⟩ hB3 hD3 hi3
    simp only[go_sem,em]
    refine z0l hg hB3 hs hD3 hi3 ?_
    rintro v D4 i4 ⟨t2,rfl,ht2⟩ hB4 hD4 hi4
    have l1:=ht1.2.1
    have l2:=ht2.2.1
    simp only[go_sem,z2w]
    rw[z0a (op2 (o:=7) (i:=7) rfl (by omega) (by omega))]
    simp only[go_sem,]
    rw[z0y]
    exact hR _ _ i4 (by rw[z0m hB4 hs];exact hD4) hi4 ⟨_,rfl,(GT.op2 ht1 ht2 (.andor (k:=2) (.inl rfl)) (by omega) (by omega)).up (by omega) (by omega)⟩
   ·simp only[go_sem,hb0,z7,decide_true,decide_false,z8,x6,em]
    refine z0l hg hB2 hs hD2 hi2 ?_
    rintro v D3 i3 ⟨t1,rfl,ht1⟩ hB3 hD3 hi3
    simp only[go_sem,em]
    refine z0l hg hB3 hs hD3 hi3 ?_
    rintro v D4 i4 ⟨t2,rfl,ht2⟩ hB4 hD4 hi4
    have l1:=ht1.2.1
    have l2:=ht2.2.1
    simp only[go_sem,z2w]
    rw[z0a (op2 (o:=8) (i:=8) rfl (by omega) (by omega))]
    simp only[go_sem,]
    rw[z0y]
    exact hR _ _ i4 (by rw[z0m hB4 hs];exact hD4) hi4 ⟨_,rfl,(GT.op2 ht1 ht2 (.andor (k:=2) (.inr rfl)) (by omega) (by omega)).up (by omega) (by omega)⟩
 ·rcases hb0 with ⟨hb0,_⟩ | ⟨hb0,_⟩
  all_goals
   simp only[go_sem,hb0,z7,decide_true,decide_false,z8,x6]
   refine z0l hF hB2 hs hD2 hi2 ?_
   rintro v D3 i3 ⟨t1,rfl,ht1⟩ hB3 hD3 hi3
   simp only[go_sem,]
   rw[z0y]
   exact hR _ _ i3 (by rw[z0m hB3 hs];exact hD3) hi3 ⟨_,rfl,ht1.up (by omega) (by omega)⟩
theorem x8k (hl:q7t l) (hV:V.length≤400) (hN:x1q l):∀ d,d≤6→j0y l V d
 | 0,_=>w9d hl hV (by omega) (q5d hl hV hN 2 (by omega)).2 fun e h=>by omega
 | d + 1,hd=>w9d hl hV hd (q5d hl hV hN 2 (by omega)).2 fun e h=>by
   obtain rfl:e=d:=by omega
   exact x8k hl hV hN e (by omega)
theorem w9e {s:Nat} {u:Tip} (hl:q7t l) (hV:V.length≤400) (hN:x1q l) (h1:1≤s) (h2:s≤4):GenOk l 119 [nat s, .sl (V.map z2b) u] (x1p V s 5 66):=by
 have hT:=(q5d hl hV hN 1 (by omega)).1 s h1 h2
 have hTB:=w8y (s:=s) (e:=1)
 refine GenOk.of rfl y7c rfl rfl rfl (az:=[nat s, .sl (V.map z2b) .no]) rfl (by simp[z0i,z3f,z5i]) fun D B p g i clk T hB hs hD hi hR=> ?_
 simp only[go_sem,w8e,hB,nat]
 refine z0l (z3u hl (by decide) (by decide)) hB hs hD hi ?_
 rintro v D2 i2 ⟨r,rfl,hr1,hr2⟩ hB2 hD2 hi2
 simp only[go_sem,]
 refine z8m (fun hc=> ?_) (fun hc=> ?_)
 ·simp only[go_sem,]
  refine z0l hT hB2 hs hD2 hi2 ?_
  rintro v D3 i3 ⟨t1,rfl,ht1⟩ hB3 hD3 hi3
  simp only[go_sem,]
  rw[z0y]
  exact hR _ _ i3 (by rw[z0m hB3 hs];exact hD3) hi3 ⟨_,rfl,ht1.up (by omega) (by omega)⟩
 ·simp only[go_sem,]
  refine z0l (q1q hl h1 h2 hV) hB2 hs hD2 hi2 ?_
  rintro v D3 i3 ⟨t1,rfl,ht1⟩ hB3 hD3 hi3
  simp only[go_sem,]
  rw[z0y]
  exact hR _ _ i3 (by rw[z0m hB3 hs];exact hD3) hi3 ⟨_,rfl,ht1.up (by omega) (by omega)⟩
end
section
variable {l:List Int} {V:List Var} {ps:List Func}
def x4y (ps:List Func):Prop:=0 < ps.length∧ps.length≤5∧∀ f∈ps,f.args.length≤3∧∀ s∈f.args,1≤s∧s≤4
def AppOk (ps:List Func) (V:List Var) (a:App):Prop:=∃ f∈ps,a.pred=f.name∧a.args.length=f.args.length∧∀ q∈f.args.zip a.args,GT V q.1 5 66 q.2
theorem z7u {l:List Func} {i:Nat} {h:List AObj} {t:Tip} {k:IntKind} (hi:i < l.length):z1v h 3 (.sl (l.map z1m) t) (.int k (i:Int))=some (.iptr [.str l[i].name, .sl (l[i].args.map nat) .no,nat l[i].result] 0,h):=z3v hi rfl rfl
theorem q6d {l:List Nat} {i:Nat} {h:List AObj} {t:Tip} {k:IntKind} (hi:i < l.length):z1v h 1 (.sl (l.map nat) t) (.int k (i:Int))=some (.iptr [nat l[i]] 0,h):=z3v hi rfl rfl
theorem k1r {ps:List Func}:(AV.sl (ps.map z1m) .no).ids=[]:=j3m z5g
theorem j3o {α β:Type} {y:β}:∀ {ys:List β} {xs:List α} (h:ys.length < xs.length),xs.zip (ys++[y])=xs.zip ys++[(xs[ys.length],y)]
 | [],x::xs,_=>by simp
 | z::ys,x::xs,h=>by
   have:=j3o (y:=y) (ys:=ys) (xs:=xs) (by simpa using h)
   simp[this]
theorem w9f {u w:Tip} (hl:q7t l) (hV:V.length≤400) (hN:x1q l) (hP:x4y ps):GenOk l 68 [.sl (ps.map z1m) u, .sl (V.map z2b) w] (fun v=>∃ a,v=z4q a∧AppOk ps V a):=by
 obtain⟨hp0,hp5,hpf⟩:=hP
 refine GenOk.of rfl u5z rfl rfl rfl (az:=[.sl (ps.map z1m) .no, .sl (V.map z2b) .no]) rfl (by simp[z0i,k1r,z5i]) fun D B p g i clk T hB hs hD hi hR=> ?_
 simp only[go_sem,u2h,hB,z6]
 refine z0l (z3u hl (by omega) (by omega)) hB hs hD hi ?_
 rintro v D2 i2 ⟨r,rfl,hr1,hr2⟩ hB2 hD2 hi2
 obtain⟨k,rfl⟩:∃ k:Nat,r=k:=⟨r.toNat,by omega⟩
 have hk:k < ps.length:=by omega
 have hf:=hpf ps[k] (x8 hk)
 generalize hfk:ps[k]=f at hf
 have hmem:f∈ps:=hfk ▸ x8 hk
 simp only[go_sem,hB2,z7u hk,hfk,nat]
 refine z1f (fun m q=>∃ (j:Nat) (acc:List Term) (t:Tip) (D:List AObj) (i g0 g1 g2:Nat) (o3 o4:AObj),j≤f.args.length∧m=f.args.length - j∧acc.length=j∧(∀ q∈f.args.zip acc,GT V q.1 5 66 q.2)∧D.length=B∧D[p]? =some (chObj g l i)∧i≤l.length∧
  q.ts 0= .ptr p g 0 0∧q.ts 2= .sl (V.map z2b) .no∧q.ts 6= .ptr (B + 0) g0 0 0∧q.ts 7= .ptr (B + 1) g1 0 0∧q.ts 8= .ptr (B + 2) g2 0 0∧q.ts 9= .int .i64 j∧
  q.h=D++[.blk g0 [.agg [.str [], .sl [] .nil]] false false 0, .blk g1 [.agg [.str f.name, .sl (f.args.map nat) .no, .int .i64 (f.result:Int)]] false false 0, .blk g2 [.agg [.str f.name, .sl (acc.map z0w) t]] false false 0,o3,o4]∧q3e B 4 o4 t 1) f.args.length ?_ ?_
 ·exact⟨0,[], .nil,D2,i2,_,_,_,_,_,by simp,rfl,rfl,by simp,hB2,hD2,hi2,rfl,rfl,rfl,rfl,rfl,rfl,rfl, .inl rfl⟩
 clear hB2 hD2 hi2 hB hD hi
 rintro m ⟨ts,h,clk⟩ P ⟨j,acc,t,D,i,g0,g1,g2,o3,o4,hj,rfl,hal,hacc,hB,hD,hi,q0,q2,q6,q7,q8,q9,rfl,ht⟩ hn he hr
 dsimp only at q0 q2 q6 q7 q8 q9
 simp only[go_sem,q0,q2,q6,q7,q8,q9,hB,z6,v7o]
 refine z8m (fun hb=> ?_) (fun hb=> ?_)
 ·have hlt:j < f.args.length:=by simp at hb;omega
  have hsj:=hf.2 f.args[j] (x8 hlt)
  have e1:IntKind.i64.wrap ((j:Int) + 1)=((j + 1:Nat):Int):=z0c (by omega) (by omega)
  simp only[go_sem,q0,q2,q6,q7,q8,q9,hB,z1p,q6d hlt]
  refine z0l (w9e hl hV hN hsj.1 hsj.2) hB hs hD hi ?_
  rintro v D1 i1 ⟨t1,rfl,ht1⟩ hB1 hD1 hi1
  simp only[go_sem,q0,q2,q6,q7,q8,q9,hB1,z2w]
  rw[show [z0w t1]=[t1].map z0w from rfl,z1c hB1 rfl ht z6a z6a (by simp only[z6,v6];omega)]
  have happ:acc.map z0w++[z0w t1]=(acc++[t1]).map z0w:=by simp
  simp only[go_sem,q0,q2,q6,q7,q8,q9,hB1,e1,happ]
  refine⟨by simp[z1r,apart,z0q,z1n,z1t,AOp.isCall,hB,z3f,z0d];omega, ?_⟩
  refine hn (f.args.length - (j + 1)) _ (by omega) ⟨j + 1,acc++[t1],_,D1,i1,g0,g1,g2,_,_,hlt,rfl,by simp[hal], ?_,hB1,hD1,hi1,q0,q2,q6,q7,q8,rfl,rfl, .inr (.inr ⟨_,rfl,rfl⟩)⟩
  subst hal
  rw[j3o hlt]
  intro q hq
  rw[x4,y3] at hq
  rcases hq with hq | rfl
  ·exact hacc q hq
  ·exact ht1
 ·have hjf:j=f.args.length:=by simp at hb;omega
  simp only[go_sem,q0,q2,q6,q7,q8,q9,hB]
  refine he _ _ ?_
  simp only[go_sem,q0,q2,q6,q7,q8,q9,hB]
  have hid:(AV.agg [.str f.name, .sl (acc.map z0w) t]).cv.ids=[]:=z4r ⟨f.name,acc⟩
  rw[z2y rfl hid]
  exact hR _ _ i (by rw[z0m hB hs];exact hD) hi ⟨⟨f.name,acc⟩,rfl,f,hmem,rfl,by rw[hal,hjf],hacc⟩
end
section
variable {l:List Int} {V:List Var} {ps:List Func}
theorem GenOk.conv {f:Nat} {args args':List AV} {af:AFun} {R:AV→Prop} (h:GenOk l f args R) (hext:Gam.ext f=none) (hfn:Gam.fn f=some af) (hb:af.byref=[]) (ho:z4u args=[]) (ho':z4u args'=[]) (he:cvL args'=cvL args):GenOk l f args' R:=by
 have hob:∀ s g,z4u (.ptr s g 0 0::args)=[]:=fun s g=>by simp[z4u,AV.obs,ho]
 have hob':∀ s g,z4u (.ptr s g 0 0::args')=[]:=fun s g=>by simp[z4u,AV.obs,ho']
 have hcv:∀ s g,cvL (.ptr s g 0 0::args')=cvL (.ptr s g 0 0::args):=fun s g=>by simp[cvL,he]
 have key:∀ k s g h clk,z5w Gam k f (.ptr s g 0 0::args') h clk=z5w Gam k f (.ptr s g 0 0::args) h clk:=by
  intro k s g h clk
  unfold z5w z0k
  simp only[hext,hfn,hb,z2g (hob s g),z2g (hob' s g),z6o (hob s g),z6o (hob' s g),hcv s g]
 have kf:∀ s g h,z0z Gam f (.ptr s g 0 0::args') h=z0z Gam f (.ptr s g 0 0::args) h:=by
  intro s g h
  unfold z0z
  simp only[hext,hfn,hb,z2g (hob s g),z2g (hob' s g),hob s g,hob' s g,hcv s g]
 intro hh s g i clk Q h1 h2 h3
 obtain⟨⟨k,v,h',c,h4,h5⟩,h6⟩:=h hh s g i clk Q h1 h2 h3
 exact⟨⟨k,v,h',c,by rw[key];exact h4,h5⟩,by rw[kf];exact h6⟩
def z1z:List Var:=[⟨[120],2⟩,⟨[121],2⟩,⟨[122],3⟩,⟨[119],3⟩,⟨[112],1⟩,⟨[98],1⟩,⟨[97],4⟩,⟨[99],4⟩]
theorem w9g:Pure Gam 67 [] (.sl (z1z.map z2b) .no):=Pure.tab (tab:=v4l) rfl rfl rfl
def w9h (ps:List Func) (V:List Var) (a:App):Prop:=(a.pred=[]∧a.args=[])∨AppOk ps V a
def ClauseOk (ps:List Func) (c:Clause):Prop:=List.Sublist c.vars z1z∧c.body.length≤2∧(∀ a∈c.body,AppOk ps c.vars a)∧GT c.vars 1 11 3199 c.guard∧w9h ps c.vars c.head
theorem v8k {B p g i clk g0:Nat} {D:List AObj} {ts:Tmps} {o b c d x y:AObj} {ks:List Kf} {Q:Post} (hl:q7t l) (hB:D.length=B) (hs:p < B) (hD:D[p]? =some (chObj g l i)) (hi:i≤l.length) {q:Bool}
  (h0:ts 0= .ptr p g 0 0) (h1:ts 1= .sl (ps.map z1m) .no) (h2:ts 2= .bool q) (h6:ts 6= .ptr (B + 0) g0 0 0) (h7:ts 7= .sl (z1z.map z2b) .no) (h8:ts 8= .sl [] .nil) (h9:ts 9= .int .i64 0)
  (hQ:∀ (acc:List Var) (t:Tip) (ts':Tmps) (D':List AObj) (i':Nat) (b c d x y:AObj) (clk':Nat),acc.Sublist z1z→D'.length=B→D'[p]? =some (chObj g l i')→i'≤l.length→ts' 0= .ptr p g 0 0→ts' 1= .sl (ps.map z1m) .no→ts' 2= .bool q→ts' 6= .ptr (B + 0) g0 0 0→ts' 8= .sl (acc.map z2b) t→K Gam B (.exit 0) ks ⟨ts',D'++[o,b,c,d,x,y],clk'⟩ Q):
  K Gam B (.loop k6n) ks ⟨ts,D++[o,b,c,d,x,y],clk⟩ Q:=by
 refine z1f (fun m s=>∃ (j:Nat) (acc:List Var) (t:Tip) (D:List AObj) (i:Nat) (b c d x y:AObj),j≤8∧m=8 - j∧acc.Sublist (z1z.take j)∧D.length=B∧D[p]? =some (chObj g l i)∧i≤l.length∧s.ts 0= .ptr p g 0 0∧s.ts 1= .sl (ps.map z1m) .no∧s.ts 2= .bool q∧s.ts 6= .ptr (B + 0) g0 0 0∧s.ts 7= .sl (z1z.map z2b) .no∧s.ts 8= .sl (acc.map z2b) t∧s.ts 9= .int .i64 (j:Int)∧s.h=D++[o,b,c,d,x,y]∧q3e B 2 c t 2) 8 ?_ ?_
 ·exact⟨0,[], .nil,D,i,_,_,_,_,_,by omega,rfl,by simp,hB,hD,hi,h0,h1,h2,h6,h7,h8,h9,rfl, .inl rfl⟩
 clear h0 h1 h2 h6 h7 h8 h9 hB hD hi
 rintro m ⟨ts,h,clk⟩ P ⟨j,acc,t,D,i,b,c,d,x,y,hj,rfl,hacc,hB,hD,hi,h0,h1,h2,h6,h7,h8,h9,rfl,ht⟩ hn he hr
 dsimp only at h0 h1 h2 h6 h7 h8 h9
 have hlen:z1z.length=8:=rfl
 simp only[go_sem,h0,h1,h2,h6,h7,h8,h9,z6,hlen,k6n]
 refine z8m (fun hb=> ?_) (fun hb=> ?_)
 ·have hlt:j < z1z.length:=by simp at hb;omega
  have e1:IntKind.i64.wrap ((j:Int) + 1)=((j + 1:Nat):Int):=z0c (by omega) (by omega)
  have hal:acc.length≤8:=by have:=hacc.length_le;simp at this;omega
  simp only[go_sem,h0,h1,h2,h6,h7,h8,h9]
  refine z0l (z3u hl (by decide) (by decide)) hB hs hD hi ?_
  rintro v D2 i2 ⟨r,rfl,hr1,hr2⟩ hB2 hD2 hi2
  simp only[go_sem,h0,h1,h2,h6,h7,h8,h9]
  refine z8m (fun hc=> ?_) (fun hc=> ?_)
  ·simp only[go_sem,h0,h1,h2,h6,h7,h8,h9,z6r hlt,nat]
   rw[show [AV.agg [.str z1z[j].name, .int .i64 (z1z[j].sort:Int)]]=[z1z[j]].map z2b from rfl,z1c hB2 rfl ht z5h z5h (by simp only[z6,v6];omega)]
   simp only[go_sem,h0,h1,h2,h6,h7,h8,h9,e1]
   refine hn (8 - (j + 1)) _ (by omega) ⟨j + 1,acc++[z1z[j]],_,D2,i2,_,_,_,_,_,by omega,rfl, ?_,hB2,hD2,hi2,h0,h1,h2,h6,h7, ?_,rfl,rfl, .inr (.inr ⟨_,rfl,rfl⟩)⟩
   ·rw[w7 hlt]
    exact hacc.append (List.Sublist.refl _)
   ·simp only[z0b,z0,cond_true,cond_false,v8,j4,k8]
  ·simp only[go_sem,h0,h1,h2,h6,h7,h8,h9,e1]
   refine hn (8 - (j + 1)) _ (by omega) ⟨j + 1,acc,t,D2,i2,_,_,_,_,_,by omega,rfl, ?_,hB2,hD2,hi2,h0,h1,h2,h6,h7,h8,rfl,rfl,ht⟩
   rw[w7 hlt]
   exact hacc.trans (List.sublist_append_left _ _)
 ·simp only[go_sem,]
  refine he _ _ ?_
  exact hQ acc t _ D i _ _ _ _ _ _ (hacc.trans (List.take_sublist _ _)) hB hD hi (by simp[z0b,h0]) (by simp[z0b,h1]) (by simp[z0b,h2]) (by simp[z0b,h6]) (by simp[z0b,h8])
end
section
variable {l:List Int} {V:List Var} {ps:List Func}
def k1s (V:List Var) (tv:Tip) (body:List App) (tb:Tip):AV:= .agg [.sl (V.map z2b) tv, .sl (body.map z4q) tb, .sl [] .nil, .str [], .sl [] .nil]
theorem k7g {B p g i clk g0 g3 n:Nat} {D:List AObj} {ts:Tmps} {o b c x y:AObj} {ks:List Kf} {Q:Post} {tv:Tip} (hl:q7t l) (hV:V.length≤400) (hN:x1q l) (hP:x4y ps) (hn:n≤2) (hB:D.length=B) (hs:p < B) (hD:D[p]? =some (chObj g l i)) (hi:i≤l.length) {q:Bool}
  (h0:ts 0= .ptr p g 0 0) (h1:ts 1= .sl (ps.map z1m) .no) (h2:ts 2= .bool q) (h6:ts 6= .ptr (B + 0) g0 0 0) (h8:ts 8= .sl (V.map z2b) tv) (h10:ts 10= .ptr (B + 3) g3 0 0) (h11:ts 11= .int .i64 (n:Int))
  (hQ:∀ (acc:List App) (t:Tip) (ts':Tmps) (D':List AObj) (i':Nat) (b c x y:AObj) (clk':Nat),acc.length≤2→(∀ a∈acc,AppOk ps V a)→D'.length=B→D'[p]? =some (chObj g l i')→i'≤l.length→ts' 0= .ptr p g 0 0→ts' 1= .sl (ps.map z1m) .no→ts' 2= .bool q→ts' 6= .ptr (B + 0) g0 0 0→ts' 8= .sl (V.map z2b) tv→ts' 10= .ptr (B + 3) g3 0 0→K Gam B (.exit 2) ks ⟨ts',D'++[o,b,c, .blk g3 [k1s V tv acc t] false false 0,x,y],clk'⟩ Q):
  K Gam B (.loop k0v) ks ⟨ts,D++[o,b,c, .blk g3 [k1s V tv [] .nil] false false 0,x,y],clk⟩ Q:=by
 refine z1f (fun m s=>∃ (n:Nat) (acc:List App) (t:Tip) (D:List AObj) (i:Nat) (b c x y:AObj),m=n∧acc.length + n≤2∧(∀ a∈acc,AppOk ps V a)∧D.length=B∧D[p]? =some (chObj g l i)∧i≤l.length∧s.ts 0= .ptr p g 0 0∧s.ts 1= .sl (ps.map z1m) .no∧s.ts 2= .bool q∧s.ts 6= .ptr (B + 0) g0 0 0∧s.ts 8= .sl (V.map z2b) tv∧s.ts 10= .ptr (B + 3) g3 0 0∧s.ts 11= .int .i64 (n:Int)∧s.h=D++[o,b,c, .blk g3 [k1s V tv acc t] false false 0,x,y]∧q3e B 5 y t 2) n ?_ ?_
 ·exact⟨n,[], .nil,D,i,_,_,_,_,rfl,by simpa using hn,by simp,hB,hD,hi,h0,h1,h2,h6,h8,h10,h11,rfl, .inl rfl⟩
 clear h0 h1 h2 h6 h8 h10 h11 hB hD hi
 rintro m ⟨ts,h,clk⟩ P ⟨n,acc,t,D,i,b,c,x,y,rfl,hlen,hacc,hB,hD,hi,h0,h1,h2,h6,h8,h10,h11,rfl,ht⟩ hnx he hr
 dsimp only at h0 h1 h2 h6 h8 h10 h11
 simp only[go_sem,h0,h1,h2,h6,h8,h10,h11,k0v]
 refine z8m (fun hb=> ?_) (fun hb=> ?_)
 ·have hpos:0 < m:=by simp at hb;omega
  obtain⟨n',rfl⟩:∃ n',m=n' + 1:=⟨m - 1,by omega⟩
  have en:IntKind.i64.wrap (((n' + 1:Nat):Int) - 1)=(n':Int):=z5b (by omega)
  simp only[go_sem,h0,h1,h2,h6,h8,h10,h11,z1p,hB,k1s]
  refine z0l (w9f hl hV hN hP) hB hs hD hi ?_
  rintro v D1 i1 ⟨a,rfl,ha⟩ hB1 hD1 hi1
  have happ:acc.map z4q++[z4q a]=(acc++[a]).map z4q:=by simp
  have hbs:∀ h,bsV h (.agg [.str [], .sl [] .nil]) 1 [0] [z4q a]=some (.sl [z4q a] .full,h):=fun h=>y7o rfl rfl rfl rfl
  simp only[go_sem,h0,h1,h2,h6,h8,h10,h11,hB1,hbs]
  rw[show [z4q a]=[a].map z4q from rfl,z1c hB1 rfl ht q6b q6b (by simp only[z6,v6];omega)]
  simp only[go_sem,h0,h1,h2,h6,h8,h10,h11,hB1,en,happ]
  refine⟨by simp[z1r,apart,z0q,z1n,z1t,AOp.isCall,hB];omega, ?_⟩
  refine hnx n' _ (by omega) ⟨n',acc++[a],_,D1,i1,_,_,_,_,rfl,by simp;omega, ?_,hB1,hD1,hi1,h0,h1,h2,h6,h8,h10,rfl,rfl, .inr (.inr ⟨_,rfl,rfl⟩)⟩
  intro a' ha'
  rw[x4,y3] at ha'
  rcases ha' with ha' | rfl
  ·exact hacc a' ha'
  ·exact ha
 ·simp only[go_sem,]
  refine he _ _ ?_
  exact hQ acc t _ D i _ _ _ _ _ (by omega) hacc hB hD hi (by simp[z0b,h0]) (by simp[z0b,h1]) (by simp[z0b,h2]) (by simp[z0b,h6]) (by simp[z0b,h8]) (by simp[z0b,h10])
theorem y7v {u:Tip} {q:Bool} (hl:q7t l) (hN:x1q l) (hP:x4y ps):GenOk l 27 [.sl (ps.map z1m) u, .bool q] (fun v=>∃ c,v=z0j c∧ClauseOk ps c):=by
 refine GenOk.of rfl u5w rfl rfl rfl (az:=[.sl (ps.map z1m) .no, .bool q]) rfl (by simp[z0i,AV.ids,z0d z5g]) fun D B p g i clk T hB hs hD hi hR=> ?_
 simp only[go_sem,u2e,hB]
 rw[z0a w9g]
 simp only[go_sem,]
 refine v8k (q:=q) (ps:=ps) hl hB hs hD hi rfl rfl rfl rfl rfl rfl rfl ?_
 clear hB hD hi
 intro V tv ts D i b c d x y clk1 hsub hB hD hi h0 h1 h2 h6 h8
 have hV:V.length≤400:=by have:=hsub.length_le;simp[z1z] at this;omega
 simp only[go_sem,h0,h1,h2,h6,h8,hB]
 refine z0l (z3u hl (by decide) (by decide)) hB hs hD hi ?_
 clear hB hD hi
 rintro v D i ⟨r,rfl,hr1,hr2⟩ hB hD hi
 obtain⟨n,rfl⟩:∃ k:Nat,r=k:=⟨r.toNat,by omega⟩
 simp only[go_sem,h0,h1,h2,h6,h8,hB]
 refine k7g (g0:=clk) (n:=n) (q:=q) (V:=V) (tv:=tv) hl hV hN hP (by omega) hB hs hD hi (by simp[z0b,h0]) (by simp[z0b,h1]) (by simp[z0b,h2]) (by simp[z0b,h6]) (by simp[z0b,h8]) rfl rfl ?_
 clear hB hD hi
 intro body tb ts2 D i b2 c2 x2 y2 clk2 hlen hbody hB hD hi q0 q1 q2 q6 q8 q10
 simp only[go_sem,q0,q1,q2,q6,q8,q10,hB,k1s]
 have hG:=GenOk.conv (args':=[nat 3, .sl (V.map z2b) tv]) (x8k (V:=V) hl hV hN 3 (by omega)) rfl u2j rfl rfl rfl rfl
 refine z0l hG hB hs hD hi ?_
 clear hB hD hi
 rintro v D i ⟨gd,rfl,hgd⟩ hB hD hi
 simp only[go_sem,q0,q1,q2,q6,q8,q10,hB,z0w]
 refine z8m (fun hc=> ?_) (fun hc=> ?_)
 ·simp only[go_sem,q0,q1,q2,q6,q8,q10,hB]
  refine z0l (w9f hl hV hN hP) hB hs hD hi ?_
  clear hB hD hi
  rintro v D i ⟨a,rfl,ha⟩ hB hD hi
  simp only[go_sem,q0,q1,q2,q6,q8,q10,hB,z4q]
  have hid:(AV.agg [.sl (V.map z2b) tv, .sl (body.map z4q) tb, .sl (gd.map eNode) .no, .str a.pred, .sl (a.args.map z0w) .no]).cv.ids=[]:=z4b ⟨V,body,gd,a⟩
  rw[z2y rfl hid]
  exact hR _ _ i (by rw[z0m hB hs];exact hD) hi ⟨⟨V,body,gd,a⟩,rfl,hsub,hlen,hbody,hgd, .inr ha⟩
 ·simp only[go_sem,q0,q1,q2,q6,q8,q10,hB]
  have hid:(AV.agg [.sl (V.map z2b) tv, .sl (body.map z4q) tb, .sl (gd.map eNode) .no, .str [], .sl [] .nil]).cv.ids=[]:=z4b ⟨V,body,gd,⟨[],[]⟩⟩
  rw[z2y rfl hid]
  exact hR _ _ i (by rw[z0m hB hs];exact hD) hi ⟨⟨V,body,gd,⟨[],[]⟩⟩,rfl,hsub,hlen,hbody,hgd, .inl ⟨rfl,rfl⟩⟩
end
theorem x4z {h:List AObj} {e n:Nat} {xs:List AV} {t:Tip} {k:IntKind} (hn:n≤xs.length) (he:z5m e xs=true):slV h (some e) (.sl xs t) none (some (.int k (n:Int))) none=some (.sl (xs.take n) (if n=xs.length then (if t= .nil then .nil else t) else .no),h):=by
 simp[slV,z2v,z4w,hn,he]
theorem y7w {zs:List Int} {u:Tip} {h:List AObj} {clk:Nat}:∃ k g c,z5w Gam k 15 [.sl (q4z zs) u] h clk=some (.ptr h.length g 0 0,h++[chObj g (zs.take 400) 0],c):=by
 have hw:∀ (D:List AObj) (B:Nat),D.length=B→K Gam B k6m.body [] ⟨q0f [.sl (q4z zs) .no],D++x3 k6m.nslots .dead,clk⟩ (fun e s=>e= .ret∧∃ g,s.ts 2= .ptr (B + 0) g 0 0∧s.h=D++[chObj g (zs.take 400) 0]):=by
  intro D B hB
  have hm:(if (400:Int) < (zs.length:Int) then (400:Int) else (zs.length:Int))=((min zs.length 400:Nat):Int):=by
   split <;> omega
  have hh:z5m 1 (q4z zs)=true:=by cases zs <;> rfl
  have ht:(q4z zs).take (min zs.length 400)=q4z (zs.take 400):=by
   rw[q4z,q4z,←List.map_take]
   congr 1
   rcases Nat.le_total zs.length 400 with h | h
   ·rw[Nat.min_eq_left h,List.take_length,List.take_of_length_le h]
   ·rw[Nat.min_eq_right h]
  simp only[go_sem,k6m,hB,q2q,hm,x4z (xs:=q4z zs) (n:=min zs.length 400) (by rw[q2q];omega) hh,ht]
  exact⟨_,rfl,by simp[chObj]⟩
 obtain⟨k,e,s,he,rfl,g,hp,hs⟩:=hw (maskFrom [] 0 h) _ rfl
 rw[z4h] at he hp
 have hpa:z1q h k6m.byref 0 [.sl (q4z zs) u]=some [.sl (q4z zs) .no]:=rfl
 have hl:z0p k6m.byref 0 [.sl (q4z zs) u]=[]:=rfl
 have hids:z0i [.sl (q4z zs) .no]=[]:=by simp[z0i,AV.ids,q5a]
 have hres:z1s s.h s.ts k6m.results=some [.ptr (h.length + 0) g 0 0]:=by simp only[k6m,z1s,hp,Option.map_some]
 refine⟨k,g,s.clk, ?_⟩
 unfold z5w z0k
 simp only[show Gam.ext 15=none from rfl,u5t,hpa,hl,freezeAll,hids,reach,he,show k6m.owned=false from rfl,Bool.false_eq_true,if_false,hres,z1k,conv,AV.obs,z9w]
 rw[if_neg (by simp[AV.ids])]
 rw[hs,←z4h (T:=[]) (h:=h) (k:=0),List.drop_left]
 simp
theorem z6y {l:List Int} {f B k g i clk gg:Nat} {args:List AV} {R:AV→Prop} {D L:List AObj} {m:Md} {dst:Option Nat} {os:List AOper} {ts:Tmps} {ks:List Kf} {Q:Post} (hg:GenOk l f args R) (hB:D.length=B) (hL:L[k]? =some (chObj g l i)) (hi:i≤l.length)
  (hQ:∀ v i',R v→i'≤l.length→O Gam B (m.add ([B + k],[B + k])) (gg + 1) os ⟨z8g ts dst v,D++L.set k (chObj g l i'),clk⟩ ks Q):CK Gam B f (.ptr (B + k) g 0 0::args) (D++L) clk m dst gg os ts ks Q:=by
 unfold CK
 have hD':(D++L)[B + k]? =some (chObj g l i):=by rw[z2u hB];exact hL
 obtain⟨_,hf⟩:=hg (D++L) (B + k) g i clk (fun _ _ _=>True) hD' hi (fun _ _ _ _=>trivial)
 refine (hg (D++L) (B + k) g i clk _ hD' hi fun v i' hi' hv=> ?_).1
 refine j3k (f':=([B + k],[B + k])) ?_ ?_ ?_
 ·rw[hf];exact fun x hx=>hx
 ·rw[hf];exact fun x hx=>(List.mem_filter.1 hx).1
 ·rw[z2o hB]
  exact hQ v i' hv hi'
def z5j:List Func:=[⟨[80],[2],1⟩,⟨[81],[2,2],1⟩,⟨[82],[1,2,2],1⟩,⟨[90],[],1⟩,⟨[83],[3,4],1⟩]
def v8l:Func:=⟨[78],[2],1⟩
def allPreds:List Func:=[⟨[80],[2],1⟩,⟨[81],[2,2],1⟩,⟨[82],[1,2,2],1⟩,⟨[90],[],1⟩,⟨[83],[3,4],1⟩,⟨[78],[2],1⟩]
theorem w9i:Pure Gam 24 [] (.sl (z5j.map z1m) .no):=Pure.tab (tab:=v4k) rfl rfl rfl
theorem k7h {n:Nat} (h1:0 < n):x4y (z5j.take n):=by
 refine⟨by simp[z5j];omega,by simp[z5j];omega,fun f hf=> ?_⟩
 have:=d6 hf
 simp only[z5j,List.mem_cons,List.not_mem_nil,or_false] at this
 rcases this with rfl | rfl | rfl | rfl | rfl <;> simp
def SysOk (s:Sys):Prop:=(∃ n,2≤n∧n≤5∧s.preds=z5j.take n)∧s.clauses.length≤8∧∀ c∈s.clauses,ClauseOk s.preds c
theorem v3h {zs:List Int} {u:Tip} {B gg clk:Nat} {D L:List AObj} {m:Md} {dst:Option Nat} {os:List AOper} {ts:Tmps} {ks:List Kf} {Q:Post} (hQ:∀ g c,O Gam B (m.add (z3k (z0z Gam 15 [.sl (q4z zs) u] (D++L)) (D++L) ((D++L)++[chObj g (zs.take 400) 0]))) (gg + 1) os ⟨z8g ts dst (.ptr (D++L).length g 0 0),(D++L)++[chObj g (zs.take 400) 0],c⟩ ks Q):CK Gam B 15 [.sl (q4z zs) u] (D++L) clk m dst gg os ts ks Q:=by
 obtain⟨k,g,c,hk⟩:=y7w (u:=u) (h:=D++L) (clk:=clk)
 exact⟨k,_,_,_,hk,hQ g c⟩
theorem u6i {zs:List Int} {u:Tip} {h:List AObj} {clk:Nat} {Q:AV→List AObj→Nat→Prop} (hz:∀ z∈zs, -9223372036854775808≤z∧z≤9223372036854775807) (hN:x1q (zs.take 400)) (hQ:∀ s,SysOk s→Q (z4e s) h clk):WC Gam 6 [.sl (q4z zs) u] h clk Q:=by
 have hl:q7t (zs.take 400):=⟨by simp;omega,fun z h=>hz z (d6 h)⟩
 generalize hzs:zs.take 400=l at hN hl
 refine x4j rfl u5s rfl rfl rfl (az:=[.sl (q4z zs) .no]) rfl (by simp[z0i,AV.ids,q5a]) fun D B T hB hT=> ?_
 simp only[go_sem,u2a,hB]
 refine v3h fun g c=> ?_
 have e0:∀ (x y:AObj),(D++[x,y, .dead, .dead]).length=B + 4:=fun x y=>by simp[hB]
 have e1:∀ (x y o:AObj),(D++[x,y, .dead, .dead])++[o]=D++[x,y, .dead, .dead,o]:=fun x y o=>by simp
 rw[e0,e1,hzs]
 simp only[go_sem,hB]
 rw[z0a w9i]
 simp only[go_sem,hB]
 refine z6y (k:=4) (z3u hl (by decide) (by decide)) hB rfl (Nat.zero_le _) ?_
 rintro v i ⟨r,rfl,hr1,hr2⟩ hi
 obtain⟨n,rfl⟩:∃ k:Nat,r=k:=⟨r.toNat,by omega⟩
 have e2:IntKind.i64.wrap (2 + (n:Int))=((2 + n:Nat):Int):=by rw[z0c (by omega) (by omega)];omega
 have e3:(z5j.map z1m).take (2 + n)=(z5j.take (2 + n)).map z1m:=List.map_take.symm
 have hlen5:(z5j.map z1m).length=5:=rfl
 have e4:∀ h,slV h (some 3) (.sl (z5j.map z1m) .no) none (some (.int .i64 ((2 + n:Nat):Int))) none=some (.sl ((z5j.take (2 + n)).map z1m) .no,h):=fun h=>by
  rw[x4z (by rw[hlen5];omega) rfl,e3];simp
 have hpo:=k7h (n:=2 + n) (by omega)
 generalize hps:z5j.take (2 + n)=ps at hpo e4
 simp only[go_sem,hB,e2,e4,Option.map_none]
 refine z6y (k:=4) (z3u hl (by decide) (by decide)) hB rfl hi ?_
 rintro v i2 ⟨r,rfl,hr3,hr4⟩ hi2
 obtain⟨z,rfl⟩:∃ k:Nat,r=k:=⟨r.toNat,by omega⟩
 have e5:IntKind.i64.wrap (1 + (z:Int))=((1 + z:Nat):Int):=by rw[z0c (by omega) (by omega)];omega
 simp only[go_sem,hB,e5]
 refine z1f (fun m s=>∃ (n:Nat) (acc:List Clause) (t:Tip) (i g0 g1:Nat) (x y:AObj),m=n∧acc.length + n≤8∧(∀ a∈acc,ClauseOk ps a)∧i≤l.length∧s.ts 2= .ptr (B + 0) g0 0 0∧s.ts 3= .ptr (B + 4) g 0 0∧s.ts 4= .ptr (B + 1) g1 0 0∧s.ts 5= .int .i64 (n:Int)∧
  s.h=D++[.blk g0 [.agg [.sl [] .nil, .sl [] .nil]] false false 0, .blk g1 [.agg [.sl (ps.map z1m) .no, .sl (acc.map z0j) t]] false false 0,x,y,chObj g l i]∧q3e B 3 y t 5) (1 + z) ?_ ?_
 ·exact⟨1 + z,[], .nil,i2,_,_,_,_,rfl,by simp;omega,by simp,hi2,rfl,rfl,rfl,rfl,rfl, .inl rfl⟩
 clear e0 e1 hi hi2 e2 e4 e3
 rintro m ⟨ts,h,clk⟩ P ⟨n',acc,t,i,g0,g1,x,y,rfl,hlen,hacc,hi,h2,h3,h4,h5,rfl,ht⟩ hn he hr
 dsimp only at h2 h3 h4 h5
 have fin:∀ (ts':Tmps) (i' clk':Nat),i'≤l.length→ts' 2= .ptr (B + 0) g0 0 0→ts' 4= .ptr (B + 1) g1 0 0→P (.exit 0) ⟨ts',D++[.blk g0 [.agg [.sl [] .nil, .sl [] .nil]] false false 0, .blk g1 [.agg [.sl (ps.map z1m) .no, .sl (acc.map z0j) t]] false false 0,x,y,chObj g l i'],clk'⟩:=by
  intro ts' i' clk' hi' q2 q4
  refine he _ _ ?_
  simp only[go_sem,q2,q4,hB]
  have hid:(AV.agg [.sl (ps.map z1m) .no, .sl (acc.map z0j) t]).cv.ids=[]:=z4j ⟨ps,acc⟩
  rw[z2y rfl hid]
  refine hT _ _ (hQ ⟨ps,acc⟩ ⟨⟨2 + n,by omega,by omega,hps.symm⟩,by simp only;omega,hacc⟩)
 by_cases hm:m=0
 ·have hb:decide (0 < (m:Int))=false:=by rw[n9];omega
  simp only[go_sem,h2,h3,h4,h5,hB,k6l,hb]
  exact fin _ _ _ hi (by simp[z0b,h2]) (by simp[z0b,h4])
 ·have hb:decide (0 < (m:Int))=true:=by rw[r8];omega
  obtain⟨n',rfl⟩:∃ n',m=n' + 1:=⟨m - 1,by omega⟩
  have en:IntKind.i64.wrap (((n' + 1:Nat):Int) - 1)=(n':Int):=z5b (by omega)
  simp only[go_sem,h2,h3,h4,h5,hB,k6l,hb]
  refine z6y (k:=4) k6s hB rfl hi ?_
  clear hi
  rintro v i ⟨b,rfl⟩ hi
  simp only[go_sem,h2,h3,h4,h5,hB]
  refine z8m (fun hc=> ?_) (fun hc=> ?_)
  ·simp only[go_sem,h2,h3,h4,h5,hB,z1p]
   refine z6y (k:=4) (z3u hl (by decide) (by decide)) hB rfl hi ?_
   clear hi
   rintro v i ⟨r,rfl,hr5,hr6⟩ hi
   simp only[go_sem,h2,h3,h4,h5,hB]
   refine z6y (k:=4) (y7v hl hN hpo) hB rfl hi ?_
   clear hi
   rintro v i ⟨c,rfl,hc⟩ hi
   have hbs:∀ h,bsV h (.agg [.sl [] .nil, .sl [] .nil, .sl [] .nil, .str [], .sl [] .nil]) 1 [0] [z0j c]=some (.sl [z0j c] .full,h):=fun h=>y7o rfl rfl rfl rfl
   have happ:acc.map z0j++[z0j c]=(acc++[c]).map z0j:=by simp
   simp only[go_sem,h2,h3,h4,h5,hB,hbs]
   rw[show [z0j c]=[c].map z0j from rfl,z1c hB rfl ht q0r q0r (by simp only[z6,v6];omega)]
   simp only[go_sem,h2,h3,h4,h5,hB,en,happ]
   refine⟨by simp[z1r,apart,z0q,z1n,z1t,AOp.isCall,hB], ?_⟩
   refine hn n' _ (by omega) ⟨n',acc++[c],_,i,g0,g1,_,_,rfl,by simp;omega, ?_,hi,h2,h3,h4,rfl,rfl, .inr (.inr ⟨_,rfl,rfl⟩)⟩
   intro a' ha'
   rw[x4,y3] at ha'
   rcases ha' with ha' | rfl
   ·exact hacc a' ha'
   ·exact hc
  ·simp only[go_sem,h2,h3,h4,h5,hB]
   exact fin _ _ _ hi (by simp[z0b,h2]) (by simp[z0b,h4])
section
open Sh
set_option maxHeartbeats 0
def v8m:AFun:=(fun (a:AFun) (_:Gam.fn 285=some a)=>a) _ (by conv=>lhs;reduce;simp only[z4,z5])
theorem w9j:Gam.fn 285=some v8m:=by kernel_rfl
def v8n:AFun:=(fun (a:AFun) (_:Gam.fn 301=some a)=>a) _ (by conv=>lhs;reduce;simp only[z4,z5])
theorem w9k:Gam.fn 301=some v8n:=by kernel_rfl
def u2p:AFun:=(fun (a:AFun) (_:Gam.fn 165=some a)=>a) _ (by conv=>lhs;reduce;simp only[z4,z5])
def q7e:ACode:=(fun (a:ACode) (_:fl [] (lp u2p 0)=a)=>a) _ (by conv=>lhs;reduce;simp only[z4,z5])
attribute [local irreducible] q7e
def k1t:AFun:=(fun (a:AFun) (_:flF [q7e] u2p=a)=>a) _ (by conv=>lhs;reduce;simp only[z4,z5])
theorem w9l:Gam.fn 165=some k1t:=by kernel_rfl
def w9m:AFun:=(fun (a:AFun) (_:Gam.fn 230=some a)=>a) _ (by conv=>lhs;reduce;simp only[z4,z5])
theorem y7x:Gam.fn 230=some w9m:=by kernel_rfl
def v8o:AFun:=(fun (a:AFun) (_:Gam.fn 231=some a)=>a) _ (by conv=>lhs;reduce;simp only[z4,z5])
theorem y7y:Gam.fn 231=some v8o:=by kernel_rfl
def u2q:AFun:=(fun (a:AFun) (_:Gam.fn 277=some a)=>a) _ (by conv=>lhs;reduce;simp only[z4,z5])
def j3p:ACode:=(fun (a:ACode) (_:fl [] (lp u2q 0)=a)=>a) _ (by conv=>lhs;reduce;simp only[z4,z5])
attribute [local irreducible] j3p
def w9n:AFun:=(fun (a:AFun) (_:flF [j3p] u2q=a)=>a) _ (by conv=>lhs;reduce;simp only[z4,z5])
theorem y7z:Gam.fn 277=some w9n:=by kernel_rfl
def y8a:AFun:=(fun (a:AFun) (_:Gam.fn 278=some a)=>a) _ (by conv=>lhs;reduce;simp only[z4,z5])
def x2u:ACode:=(fun (a:ACode) (_:fl [] (lp y8a 1)=a)=>a) _ (by conv=>lhs;reduce;simp only[z4,z5])
attribute [local irreducible] x2u
def j3q:ACode:=(fun (a:ACode) (_:fl [x2u] (lp y8a 0)=a)=>a) _ (by conv=>lhs;reduce;simp only[z4,z5])
attribute [local irreducible] j3q
def w9o:AFun:=(fun (a:AFun) (_:flF [j3q,x2u] y8a=a)=>a) _ (by conv=>lhs;reduce;simp only[z4,z5])
theorem y8b:Gam.fn 278=some w9o:=by kernel_rfl
def y4l:AFun:=(fun (a:AFun) (_:Gam.fn 279=some a)=>a) _ (by conv=>lhs;reduce;simp only[z4,z5])
def q9s:ACode:=(fun (a:ACode) (_:fl [] (lp y4l 2)=a)=>a) _ (by conv=>lhs;reduce;simp only[z4,z5])
attribute [local irreducible] q9s
def x2v:ACode:=(fun (a:ACode) (_:fl [q9s] (lp y4l 1)=a)=>a) _ (by conv=>lhs;reduce;simp only[z4,z5])
attribute [local irreducible] x2v
def j3r:ACode:=(fun (a:ACode) (_:fl [x2v,q9s] (lp y4l 0)=a)=>a) _ (by conv=>lhs;reduce;simp only[z4,z5])
attribute [local irreducible] j3r
def w9p:AFun:=(fun (a:AFun) (_:flF [j3r,x2v,q9s] y4l=a)=>a) _ (by conv=>lhs;reduce;simp only[z4,z5])
theorem y8c:Gam.fn 279=some w9p:=by kernel_rfl
def j7n:AFun:=(fun (a:AFun) (_:Gam.fn 281=some a)=>a) _ (by conv=>lhs;reduce;simp only[z4,z5])
theorem y8d:Gam.fn 281=some j7n:=by kernel_rfl
def u2r:AFun:=(fun (a:AFun) (_:Gam.fn 282=some a)=>a) _ (by conv=>lhs;reduce;simp only[z4,z5])
def q9t:ACode:=(fun (a:ACode) (_:fl [] (lp u2r 0)=a)=>a) _ (by conv=>lhs;reduce;simp only[z4,z5])
attribute [local irreducible] q9t
def w9q:AFun:=(fun (a:AFun) (_:flF [q9t] u2r=a)=>a) _ (by conv=>lhs;reduce;simp only[z4,z5])
theorem y8e:Gam.fn 282=some w9q:=by kernel_rfl
def u2s:AFun:=(fun (a:AFun) (_:Gam.fn 208=some a)=>a) _ (by conv=>lhs;reduce;simp only[z4,z5])
def x8l:ACode:=(fun (a:ACode) (_:fl [] (lp u2s 0)=a)=>a) _ (by conv=>lhs;reduce;simp only[z4,z5])
attribute [local irreducible] x8l
def w9r:AFun:=(fun (a:AFun) (_:flF [x8l] u2s=a)=>a) _ (by conv=>lhs;reduce;simp only[z4,z5])
theorem y8f:Gam.fn 208=some w9r:=by kernel_rfl
def u2t:AFun:=(fun (a:AFun) (_:Gam.fn 207=some a)=>a) _ (by conv=>lhs;reduce;simp only[z4,z5])
def j3s:ACode:=(fun (a:ACode) (_:fl [] (lp u2t 0)=a)=>a) _ (by conv=>lhs;reduce;simp only[z4,z5])
attribute [local irreducible] j3s
def w9s:AFun:=(fun (a:AFun) (_:flF [j3s] u2t=a)=>a) _ (by conv=>lhs;reduce;simp only[z4,z5])
theorem y8g:Gam.fn 207=some w9s:=by kernel_rfl
def v8p:AFun:=(fun (a:AFun) (_:Gam.fn 290=some a)=>a) _ (by conv=>lhs;reduce;simp only[z4,z5])
theorem w9t:Gam.fn 290=some v8p:=by kernel_rfl
def v8q:AFun:=(fun (a:AFun) (_:Gam.fn 291=some a)=>a) _ (by conv=>lhs;reduce;simp only[z4,z5])
theorem w9u:Gam.fn 291=some v8q:=by kernel_rfl
def v8r:AFun:=(fun (a:AFun) (_:Gam.fn 316=some a)=>a) _ (by conv=>lhs;reduce;simp only[z4,z5])
theorem w9v:Gam.fn 316=some v8r:=by kernel_rfl
def v8s:AFun:=(fun (a:AFun) (_:Gam.fn 328=some a)=>a) _ (by conv=>lhs;reduce;simp only[z4,z5])
theorem w9w:Gam.fn 328=some v8s:=by kernel_rfl
def u2u:AFun:=(fun (a:AFun) (_:Gam.fn 292=some a)=>a) _ (by conv=>lhs;reduce;simp only[z4,z5])
def j3t:ACode:=(fun (a:ACode) (_:fl [] (lp u2u 0)=a)=>a) _ (by conv=>lhs;reduce;simp only[z4,z5])
attribute [local irreducible] j3t
def w9x:AFun:=(fun (a:AFun) (_:flF [j3t] u2u=a)=>a) _ (by conv=>lhs;reduce;simp only[z4,z5])
theorem y8h:Gam.fn 292=some w9x:=by kernel_rfl
def v8t:AFun:=(fun (a:AFun) (_:Gam.fn 314=some a)=>a) _ (by conv=>lhs;reduce;simp only[z4,z5])
theorem w9y:Gam.fn 314=some v8t:=by kernel_rfl
def v8u:AFun:=(fun (a:AFun) (_:Gam.fn 315=some a)=>a) _ (by conv=>lhs;reduce;simp only[z4,z5])
theorem w9z:Gam.fn 315=some v8u:=by kernel_rfl
def v8v:AFun:=(fun (a:AFun) (_:Gam.fn 322=some a)=>a) _ (by conv=>lhs;reduce;simp only[z4,z5])
theorem y0a:Gam.fn 322=some v8v:=by kernel_rfl
def v8w:AFun:=(fun (a:AFun) (_:Gam.fn 329=some a)=>a) _ (by conv=>lhs;reduce;simp only[z4,z5])
theorem y0b:Gam.fn 329=some v8w:=by kernel_rfl
def u2v:AFun:=(fun (a:AFun) (_:Gam.fn 334=some a)=>a) _ (by conv=>lhs;reduce;simp only[z4,z5])
def v3i:ACode:=(fun (a:ACode) (_:fl [] (lp u2v 0)=a)=>a) _ (by conv=>lhs;reduce;simp only[z4,z5])
attribute [local irreducible] v3i
def y0c:AFun:=(fun (a:AFun) (_:flF [v3i] u2v=a)=>a) _ (by conv=>lhs;reduce;simp only[z4,z5])
theorem y8i:Gam.fn 334=some y0c:=by kernel_rfl
def y0d:AFun:=
 {ntmps:=8,nslots:=0,results:=[.tmp 4],byref:=[],owned:=false,
  body:=(.seq (.region 1 [N 4 (.move (I 0))] []) (.seq (.region 4 [M 5 0,M 6 1,N 7 (.call 354 [(.tmp 5),(.tmp 6)]),M 4 7] []) .ret))}
theorem y8j:Gam.fn 344=some y0d:=by kernel_rfl
def y0e:AFun:=(fun (a:AFun) (_:Gam.fn 323=some a)=>a) _ (by conv=>lhs;reduce;simp only[z4,z5])
theorem y8k:Gam.fn 323=some y0e:=by kernel_rfl
def y0f:AFun:=(fun (a:AFun) (_:Gam.fn 330=some a)=>a) _ (by conv=>lhs;reduce;simp only[z4,z5])
theorem y8l:Gam.fn 330=some y0f:=by kernel_rfl
def u2w:AFun:=(fun (a:AFun) (_:Gam.fn 335=some a)=>a) _ (by conv=>lhs;reduce;simp only[z4,z5])
def j3u:ACode:=(fun (a:ACode) (_:fl [] (lp u2w 0)=a)=>a) _ (by conv=>lhs;reduce;simp only[z4,z5])
attribute [local irreducible] j3u
def y0g:AFun:=(fun (a:AFun) (_:flF [j3u] u2w=a)=>a) _ (by conv=>lhs;reduce;simp only[z4,z5])
theorem y8m:Gam.fn 335=some y0g:=by kernel_rfl
def u2x:AFun:=(fun (a:AFun) (_:Gam.fn 324=some a)=>a) _ (by conv=>lhs;reduce;simp only[z4,z5])
def j3v:ACode:=(fun (a:ACode) (_:fl [] (lp u2x 0)=a)=>a) _ (by conv=>lhs;reduce;simp only[z4,z5])
attribute [local irreducible] j3v
def y0h:AFun:=(fun (a:AFun) (_:flF [j3v] u2x=a)=>a) _ (by conv=>lhs;reduce;simp only[z4,z5])
theorem y8n:Gam.fn 324=some y0h:=by kernel_rfl
def y8o:AFun:=(fun (a:AFun) (_:Gam.fn 325=some a)=>a) _ (by conv=>lhs;reduce;simp only[z4,z5])
def x2w:ACode:=(fun (a:ACode) (_:fl [] (lp y8o 1)=a)=>a) _ (by conv=>lhs;reduce;simp only[z4,z5])
attribute [local irreducible] x2w
def j3w:ACode:=(fun (a:ACode) (_:fl [x2w] (lp y8o 0)=a)=>a) _ (by conv=>lhs;reduce;simp only[z4,z5])
attribute [local irreducible] j3w
def y0i:AFun:=(fun (a:AFun) (_:flF [j3w,x2w] y8o=a)=>a) _ (by conv=>lhs;reduce;simp only[z4,z5])
theorem y8p:Gam.fn 325=some y0i:=by kernel_rfl
def u2y:AFun:=(fun (a:AFun) (_:Gam.fn 326=some a)=>a) _ (by conv=>lhs;reduce;simp only[z4,z5])
def j3x:ACode:=(fun (a:ACode) (_:fl [] (lp u2y 0)=a)=>a) _ (by conv=>lhs;reduce;simp only[z4,z5])
attribute [local irreducible] j3x
def y0j:AFun:=(fun (a:AFun) (_:flF [j3x] u2y=a)=>a) _ (by conv=>lhs;reduce;simp only[z4,z5])
theorem y8q:Gam.fn 326=some y0j:=by kernel_rfl
def k7i:AFun:=(fun (a:AFun) (_:Gam.fn 327=some a)=>a) _ (by conv=>lhs;reduce;simp only[z4,z5])
theorem y8r:Gam.fn 327=some k7i:=by kernel_rfl
def u2z:AFun:=(fun (a:AFun) (_:Gam.fn 332=some a)=>a) _ (by conv=>lhs;reduce;simp only[z4,z5])
def x8m:ACode:=(fun (a:ACode) (_:fl [] (lp u2z 0)=a)=>a) _ (by conv=>lhs;reduce;simp only[z4,z5])
attribute [local irreducible] x8m
def y0k:AFun:=(fun (a:AFun) (_:flF [x8m] u2z=a)=>a) _ (by conv=>lhs;reduce;simp only[z4,z5])
theorem y0l:Gam.fn 332=some y0k:=by kernel_rfl
def y8s:AFun:=(fun (a:AFun) (_:Gam.fn 333=some a)=>a) _ (by conv=>lhs;reduce;simp only[z4,z5])
def k1u:ACode:=(fun (a:ACode) (_:fl [] (lp y8s 1)=a)=>a) _ (by conv=>lhs;reduce;simp only[z4,z5])
attribute [local irreducible] k1u
def v3j:ACode:=(fun (a:ACode) (_:fl [k1u] (lp y8s 0)=a)=>a) _ (by conv=>lhs;reduce;simp only[z4,z5])
attribute [local irreducible] v3j
def v8x:AFun:=(fun (a:AFun) (_:flF [v3j,k1u] y8s=a)=>a) _ (by conv=>lhs;reduce;simp only[z4,z5])
theorem y8t:Gam.fn 333=some v8x:=by kernel_rfl
def u3a:AFun:=(fun (a:AFun) (_:Gam.fn 340=some a)=>a) _ (by conv=>lhs;reduce;simp only[z4,z5])
def x2x:ACode:=(fun (a:ACode) (_:fl [] (lp u3a 0)=a)=>a) _ (by conv=>lhs;reduce;simp only[z4,z5])
attribute [local irreducible] x2x
def v8y:AFun:=(fun (a:AFun) (_:flF [x2x] u3a=a)=>a) _ (by conv=>lhs;reduce;simp only[z4,z5])
theorem y0m:Gam.fn 340=some v8y:=by kernel_rfl
def u3b:AFun:=(fun (a:AFun) (_:Gam.fn 341=some a)=>a) _ (by conv=>lhs;reduce;simp only[z4,z5])
def j3y:ACode:=(fun (a:ACode) (_:fl [] (lp u3b 0)=a)=>a) _ (by conv=>lhs;reduce;simp only[z4,z5])
attribute [local irreducible] j3y
def y0n:AFun:=(fun (a:AFun) (_:flF [j3y] u3b=a)=>a) _ (by conv=>lhs;reduce;simp only[z4,z5])
theorem y8u:Gam.fn 341=some y0n:=by kernel_rfl
end
end
end Go.Proofs.YtkollgjffkdliaaGreatDoor.Am
