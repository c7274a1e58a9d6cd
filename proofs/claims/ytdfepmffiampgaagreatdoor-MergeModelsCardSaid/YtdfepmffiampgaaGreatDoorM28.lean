/- Walking: terms and formulas are generated Walking: terms and formulas are generated Walking: terms and formulas are generated Walking: guards and arguments Walking: atoms and clauses are generated Wal -/
import Derived.Test.YtdfepmffiampgaaGreatDoorM27
open Nat renaming reduceBEq → z0,reduceAdd → z1,reduceLeDiff → z2,reduceSub → z3
set_option linter.all false
namespace Go.Proofs.YtdfepmffiampgaaGreatDoor.Am
open Go
set_option maxRecDepth 100000
section
variable {l:List Int} {V:List Var}
theorem q4e {s d:Nat}:∀ {az:List Term},(∀ t∈az,WF V [s] d t)→WF V (List.replicate az.length s) d az.flatten
 | [],_=> .nil
 | t::az,h=>by
   have:=(h t List.mem_cons_self).append (q4e (az:=az) fun q hq=>h q (List.mem_cons_of_mem _ hq))
   simpa [List.replicate_succ] using this
theorem x5f {m:Nat}:∀ {az:List Term},(∀ t∈az,t.length≤m)→az.flatten.length≤az.length * m
 | [],_=>by simp
 | t::az,h=>by
   have h1:=h t List.mem_cons_self
   have h2:=x5f (az:=az) fun q hq=>h q (List.mem_cons_of_mem _ hq)
   simp only[List.flatten_cons,List.length_append,List.length_cons,Nat.add_mul,Nat.one_mul]
   omega
theorem k8f {e B p g i clk:Nat} {D:List AObj} {ts:Tmps} {a b c d x:AObj} {ks:List Kf} {Q:Post} {n:Nat} (he:e≤3) (hn:n≤3) (hF:q5l l V e) (hB:D.length=B) (hs:p < B) (hD:D[p]? =some (z3v g l i)) (hi:i≤l.length)
  (g0:ts 0= .ptr p g 0 0) (g1:ts 1=nat (e + 1)) (g2:ts 2= .sl (V.map z1h) .no) (g7:ts 7= .sl [] .nil) (g8:ts 8= .int .i64 (n:Int))
  (hQ:∀ (acc:List Term) (t:Tip) (ts':Tmps) (D':List AObj) (i':Nat) (a b c d x:AObj) (clk':Nat),acc.length≤3→(∀ t∈acc,GT V 1 (e + 4) (11 * 6 ^ e) t)→D'.length=B→D'[p]? =some (z3v g l i')→i'≤l.length→ts' 0= .ptr p g 0 0→ts' 7= .sl (acc.map z0i) t→K Gam B (.exit 1) ks ⟨ts',D'++[a,b,c,d,x],clk'⟩ Q):
  K Gam B (.loop j4f) ks ⟨ts,D++[a,b,c,d,x],clk⟩ Q:=by
 refine z1q (fun m q=>∃ (n:Nat) (acc:List Term) (t:Tip) (D:List AObj) (i:Nat) (a b c d x:AObj),m=n∧acc.length + n≤3∧(∀ t∈acc,GT V 1 (e + 4) (11 * 6 ^ e) t)∧D.length=B∧D[p]? =some (z3v g l i)∧i≤l.length∧q.ts 0= .ptr p g 0 0∧q.ts 1=nat (e + 1)∧q.ts 2= .sl (V.map z1h) .no∧q.ts 7= .sl (acc.map z0i) t∧q.ts 8= .int .i64 (n:Int)∧q.h=D++[a,b,c,d,x]∧z7x B 2 c t 1) n ?_ ?_
 ·exact⟨n,[], .nil,D,i,_,_,_,_,_,rfl,by simpa using hn,by simp,hB,hD,hi,g0,g1,g2,g7,g8,rfl, .inl rfl⟩
 clear g0 g1 g2 g7 g8 hB hD hi
 rintro m ⟨ts,h,clk⟩ P ⟨n,acc,t,D,i,a,b,c,d,x,rfl,hlen,hacc,hB,hD,hi,g0,g1,g2,g7,g8,rfl,ht⟩ hnx hex hr
 dsimp only at g0 g1 g2 g7 g8
 have h6:6 ^ e≤6 ^ 4:=Nat.pow_le_pow_right (by omega) (by omega)
 have em:=z5x (e:=e) (by omega)
 simp only[go_sem,g0,g1,g2,g7,g8,j4f]
 refine z8i (fun hb=> ?_) (fun hb=> ?_)
 ·have hpos:0 < m:=by simp at hb;omega
  obtain⟨n',rfl⟩:∃ n',m=n' + 1:=⟨m - 1,by omega⟩
  have en:IntKind.i64.wrap (((n' + 1:Nat):Int) - 1)=(n':Int):=z5x (by omega)
  simp only[go_sem,g0,g1,g2,g7,g8,nat,em]
  refine z0t hF hB hs hD hi ?_
  rintro v D1 i1 ⟨t1,rfl,ht1⟩ hB1 hD1 hi1
  simp only[go_sem,g0,g1,g2,g7,g8,z3m]
  rw[show [z0i t1]=[t1].map z0i from rfl,z0k hB1 rfl ht z4c z4c (by simp only[List.length_map,List.length_singleton];omega)]
  simp only[go_sem,g0,g1,g2,g7,g8,en]
  refine hnx n' _ (by omega) ⟨n',acc++[t1],_,D1,i1,_,_,_,_,_,rfl,by simp;omega, ?_,hB1,hD1,hi1,g0,g1,g2, ?_,rfl,rfl, .inr (.inr ⟨_,rfl,rfl⟩)⟩
  ·intro t' ht'
   rw[List.mem_append,List.mem_singleton] at ht'
   rcases ht' with ht' | rfl
   ·exact hacc t' ht'
   ·exact ht1
  ·simp only[z0c,z0,cond_true,cond_false,List.map_append,List.map_cons,List.map_nil]
 ·simp only[go_sem,]
  refine hex _ _ ?_
  exact hQ acc t _ D i _ _ _ _ _ _ (by omega) hacc hB hD hi (by simp[z0c,g0]) (by simp[z0c,g7])
theorem j1v (hl:q6i l) (hV:V.length≤400):q5l l V 0:=by
 have hA:=k2u (u:= .no) hl hV (Nat.le_refl 3) (Nat.le_refl 5) (by omega) fun s h1 h2=>q4d (s:=s) hl hV (by omega) h2
 refine GenOk.of rfl v9v rfl rfl rfl (az:=[nat 0, .sl (V.map z1h) .no]) rfl (by simp[idsL,z3q,z6b]) fun D B p g i clk T hB hs hD hi hR=> ?_
 simp only[go_sem,v9u,hB,nat,Int.reduceLE,decide_true]
 refine z0t hA hB hs hD hi ?_
 rintro v D1 i1 ⟨t1,rfl,ht1⟩ hB1 hD1 hi1
 simp only[go_sem,]
 rw[z1g]
 exact hR _ _ i1 (by rw[z1a hB1 hs];exact hD1) hi1 ⟨_,rfl,ht1.up (by omega) (by omega)⟩
theorem v4a {e:Nat} (hl:q6i l) (hV:V.length≤400) (he:e≤3) (hF:q5l l V e) (hT:x0f l V e):q5l l V (e + 1):=by
 have hA0:=k2u (u:= .no) hl hV (Nat.le_refl 3) (Nat.le_refl 5) (by omega) fun s h1 h2=>q4d (s:=s) hl hV (by omega) h2
 have h6:6 ^ e≤6 ^ 4:=Nat.pow_le_pow_right (by omega) (by omega)
 have h6':1≤6 ^ e:=Nat.pos_of_ne_zero (by simp)
 have hA:=k2u (d:=e) (u:= .no) (k:=e + 4) (m:=5 * 6 ^ e) hl hV (by omega) (by omega) (by omega) fun s h1 h2=>by
  have:=hT s (by omega) h2
  unfold TB at this
  rw[if_neg (by omega)] at this
  exact this
 have hI:=k2v he hF hT
 have e6:6 ^ (e + 1)=6 * 6 ^ e:=by rw[Nat.pow_succ,Nat.mul_comm]
 refine GenOk.of rfl v9v rfl rfl rfl (az:=[nat (e + 1), .sl (V.map z1h) .no]) rfl (by simp[idsL,z3q,z6b]) fun D B p g i clk T hB hs hD hi hR=> ?_
 have em:=z5x (e:=e) (by omega)
 have e0:decide (((e + 1:Nat):Int)≤0)=false:=by rw[decide_eq_false_iff_not];omega
 simp only[go_sem,v9u,hB,nat,e0]
 refine z0t v9z hB hs hD hi ?_
 rintro v D1 i1 ⟨b,rfl⟩ hB1 hD1 hi1
 simp only[go_sem,]
 refine z8i (fun hc=> ?_) (fun hc=> ?_)
 ·simp only[go_sem,]
  refine z0t hA0 hB1 hs hD1 hi1 ?_
  rintro v D2 i2 ⟨t1,rfl,ht1⟩ hB2 hD2 hi2
  simp only[go_sem,]
  rw[z1g]
  exact hR _ _ i2 (by rw[z1a hB2 hs];exact hD2) hi2 ⟨_,rfl,ht1.up (by omega) (by omega)⟩
 clear hD hi hc
 simp only[go_sem,]
 refine z0t (z3i hl (by decide) (by decide)) hB1 hs hD1 hi1 ?_
 rintro v D2 i2 ⟨r,rfl,hr1,hr2⟩ hB2 hD2 hi2
 clear hD1 hi1 hB1
 obtain⟨q,rfl⟩:∃ k:Nat,r=k:=⟨r.toNat,by omega⟩
 have hq:(q=0∨q=1)∨(q=2∨q=3∨q=4∨q=5)∨q=6∨q=7∨q=8∨9≤q:=by omega
 rcases hq with hq | hq | rfl | rfl | rfl | hq
 ·
  rcases hq with rfl | rfl
  all_goals
   simp only[go_sem,Int.reduceEq,decide_true,decide_false,em]
   refine z0t hF hB2 hs hD2 hi2 ?_
   rintro v D3 i3 ⟨t1,rfl,ht1⟩ hB3 hD3 hi3
   have l1:=ht1.2.1
   simp only[go_sem,z3m]
   rw[z0a (op1 (o:=6) (i:=6) rfl (by omega))]
   simp only[go_sem,]
   rw[z1g]
   exact hR _ _ i3 (by rw[z1a hB3 hs];exact hD3) hi3 ⟨_,rfl,(GT.op1 ht1 .not (by omega) (by omega)).up (by omega) (by omega)⟩
 ·
  rcases hq with rfl | rfl | rfl | rfl
  all_goals
   simp only[go_sem,Int.reduceEq,decide_true,decide_false,em]
   refine z0t (z3i hl (by decide) (by decide)) hB2 hs hD2 hi2 ?_
   rintro v D3 i3 ⟨r3,rfl,hr3,hr4⟩ hB3 hD3 hi3
   obtain⟨n,rfl⟩:∃ k:Nat,r3=k:=⟨r3.toNat,by omega⟩
   simp only[go_sem,]
   refine k8f (n:=n) (i:=i3) he (by omega) hF hB3 hs hD3 hi3 rfl rfl rfl rfl rfl ?_
   intro acc t ts' D4 i4 a1 a2 a3 a4 a5 clk' hlen hacc hB4 hD4 hi4 g0 g7
   simp only[go_sem,g0,g7]
   refine z0t (z3i hl (by decide) (by decide)) hB4 hs hD4 hi4 ?_
   rintro v D5 i5 ⟨r5,rfl,hr5,hr6⟩ hB5 hD5 hi5
   obtain⟨z,rfl⟩:∃ k:Nat,r5=k:=⟨r5.toNat,by omega⟩
   have e7:IntKind.i64.wrap (7 + (z:Int))=((7 + z:Nat):Int):=by rw[z0f (by omega) (by omega)];omega
   have hfl:=x5f (m:=11 * 6 ^ e) (az:=acc) fun t ht=>(hacc t ht).2.1
   have hfl2:acc.length * (11 * 6 ^ e)≤3 * (11 * 6 ^ e):=Nat.mul_le_mul_right _ hlen
   simp only[go_sem,g0,g7,e7]
   rw[z0a (opn (o:=7 + z) (l:=acc) rfl (by omega) (by omega))]
   simp only[go_sem,]
   rw[z1g]
   refine hR _ _ i5 (by rw[z1a hB5 hs];exact hD5) hi5 ⟨_,rfl,⟨(WF.one (q4e fun t ht=>(hacc t ht).1) (.andor (by omega)) (by simp[bare])).up (by omega),by rw[List.length_cons];omega,by omega,by omega⟩⟩
 ·
  simp only[go_sem,Int.reduceEq,decide_true,decide_false,em]
  refine z0t hF hB2 hs hD2 hi2 ?_
  rintro v D3 i3 ⟨t1,rfl,ht1⟩ hB3 hD3 hi3
  simp only[go_sem,em]
  refine z0t hF hB3 hs hD3 hi3 ?_
  rintro v D4 i4 ⟨t2,rfl,ht2⟩ hB4 hD4 hi4
  have l1:=ht1.2.1
  have l2:=ht2.2.1
  simp only[go_sem,z3m]
  rw[z0a (op2 (o:=9) (i:=9) rfl (by omega) (by omega))]
  simp only[go_sem,]
  rw[z1g]
  exact hR _ _ i4 (by rw[z1a hB4 hs];exact hD4) hi4 ⟨_,rfl,(GT.op2 ht1 ht2 .imp (by omega) (by omega)).up (by omega) (by omega)⟩
 ·
  simp only[go_sem,Int.reduceEq,decide_true,decide_false,em]
  refine z0t (hI 1 (by omega) (by omega)) hB2 hs hD2 hi2 ?_
  rintro v D3 i3 ⟨t1,rfl,ht1⟩ hB3 hD3 hi3
  simp only[go_sem,]
  rw[z1g]
  exact hR _ _ i3 (by rw[z1a hB3 hs];exact hD3) hi3 ⟨_,rfl,ht1⟩
 ·
  simp only[go_sem,Int.reduceEq,decide_true,decide_false,em]
  refine z0t hF hB2 hs hD2 hi2 ?_
  rintro v D3 i3 ⟨t1,rfl,ht1⟩ hB3 hD3 hi3
  simp only[go_sem,em]
  refine z0t hF hB3 hs hD3 hi3 ?_
  rintro v D4 i4 ⟨t2,rfl,ht2⟩ hB4 hD4 hi4
  have l1:=ht1.2.1
  have l2:=ht2.2.1
  simp only[go_sem,z3m]
  rw[z0a (op2 (o:=11) (i:=11) rfl (by omega) (by omega))]
  simp only[go_sem,]
  rw[z1g]
  exact hR _ _ i4 (by rw[z1a hB4 hs];exact hD4) hi4 ⟨_,rfl,(GT.op2 ht1 ht2 (.eq (by omega) (by omega)) (by omega) (by omega)).up (by omega) (by omega)⟩
 ·
  have d0:∀ k:Int,0≤k→k < 9→decide ((q:Int)=k)=false:=fun k h1 h2=>by rw[decide_eq_false_iff_not];omega
  simp only[go_sem,d0 0 (by decide) (by decide),d0 1 (by decide) (by decide),d0 2 (by decide) (by decide),d0 3 (by decide) (by decide),d0 4 (by decide) (by decide),d0 5 (by decide) (by decide),d0 6 (by decide) (by decide),d0 7 (by decide) (by decide),d0 8 (by decide) (by decide),em]
  refine z0t hA hB2 hs hD2 hi2 ?_
  rintro v D3 i3 ⟨t1,rfl,ht1⟩ hB3 hD3 hi3
  simp only[go_sem,]
  rw[z1g]
  exact hR _ _ i3 (by rw[z1a hB3 hs];exact hD3) hi3 ⟨_,rfl,ht1.up (by omega) (by omega)⟩
end
section
variable {l:List Int} {V:List Var}
def u2y (s:Nat) (a:List Nat):Prop:=(s=2∧IntS a)∨(s=3∧RatS a)
def x1x (l:List Int):Prop:=∀ s,s=2∨s=3→GenOk l 221 [nat s] fun v=>∃ a,v= .str a∧u2y s a
theorem GT.num {s:Nat} {a:List Nat} (h:u2y s a):GT V s 1 1 [⟨3,s,[],a,0⟩]:=by
 rcases h with ⟨rfl,h⟩ | ⟨rfl,h⟩
 ·exact GT.leaf (.int h) rfl (by omega) (by omega)
 ·exact GT.leaf (.real h) rfl (by omega) (by omega)
theorem y1h {e B p g i s clk:Nat} {D:List AObj} {ts:Tmps} {a b c d x y z:AObj} {ks:List Kf} {Q:Post} {n:Nat} {t0:Term} (he:e≤3) (hn:n≤2) (h1:1≤s) (h2:s≤4) (hT:x0f l V e) (hB:D.length=B) (hs:p < B) (hD:D[p]? =some (z3v g l i)) (hi:i≤l.length)
  (g0:ts 0= .ptr p g 0 0) (gs:ts 1=nat s) (g1:ts 2=nat (e + 1)) (g2:ts 3= .sl (V.map z1h) .no) (g7:ts 10= .sl [z0i t0] .full) (g8:ts 11= .int .i64 (n:Int)) (ht0:GT V s (e + 4) (TB s e) t0)
  (hQ:∀ (acc:List Term) (t:Tip) (ts':Tmps) (D':List AObj) (i':Nat) (a b c d x y z:AObj) (clk':Nat),1≤acc.length→acc.length≤3→(∀ t∈acc,GT V s (e + 4) (TB s e) t)→D'.length=B→D'[p]? =some (z3v g l i')→i'≤l.length→ts' 0= .ptr p g 0 0→ts' 10= .sl (acc.map z0i) t→K Gam B (.exit 1) ks ⟨ts',D'++[a,b,c,d,x,y,z],clk'⟩ Q):
  K Gam B (.loop j4g) ks ⟨ts,D++[a,b,c,d,x,y,z],clk⟩ Q:=by
 refine z1q (fun m q=>∃ (n:Nat) (acc:List Term) (t:Tip) (D:List AObj) (i:Nat) (a b c d x y z:AObj),m=n∧1≤acc.length∧acc.length + n≤3∧(∀ t∈acc,GT V s (e + 4) (TB s e) t)∧D.length=B∧D[p]? =some (z3v g l i)∧i≤l.length∧q.ts 0= .ptr p g 0 0∧q.ts 1=nat s∧q.ts 2=nat (e + 1)∧q.ts 3= .sl (V.map z1h) .no∧q.ts 10= .sl (acc.map z0i) t∧q.ts 11= .int .i64 (n:Int)∧q.h=D++[a,b,c,d,x,y,z]∧z7x B 2 c t 1) n ?_ ?_
 ·exact⟨n,[t0], .full,D,i,_,_,_,_,_,_,_,rfl,by simp,by simp;omega,by simpa using ht0,hB,hD,hi,g0,gs,g1,g2,g7,g8,rfl, .inr (.inl rfl)⟩
 clear g0 gs g1 g2 g7 g8 hB hD hi
 rintro m ⟨ts,h,clk⟩ P ⟨n,acc,t,D,i,a,b,c,d,x,y,z,rfl,hlen1,hlen,hacc,hB,hD,hi,g0,gs,g1,g2,g7,g8,rfl,ht⟩ hnx hex hr
 dsimp only at g0 gs g1 g2 g7 g8
 have em:=z5x (e:=e) (by omega)
 simp only[go_sem,g0,gs,g1,g2,g7,g8,j4g]
 refine z8i (fun hb=> ?_) (fun hb=> ?_)
 ·have hpos:0 < m:=by simp at hb;omega
  obtain⟨n',rfl⟩:∃ n',m=n' + 1:=⟨m - 1,by omega⟩
  have en:IntKind.i64.wrap (((n' + 1:Nat):Int) - 1)=(n':Int):=z5x (by omega)
  simp only[go_sem,g0,gs,g1,g2,g7,g8,nat,em]
  refine z0t (hT s h1 h2) hB hs hD hi ?_
  rintro v D1 i1 ⟨t1,rfl,ht1⟩ hB1 hD1 hi1
  simp only[go_sem,g0,gs,g1,g2,g7,g8,z3m]
  rw[show [z0i t1]=[t1].map z0i from rfl,z0k hB1 rfl ht z4c z4c (by simp only[List.length_map,List.length_singleton];omega)]
  simp only[go_sem,g0,gs,g1,g2,g7,g8,en]
  refine hnx n' _ (by omega) ⟨n',acc++[t1],_,D1,i1,_,_,_,_,_,_,_,rfl,by simp,by simp;omega, ?_,hB1,hD1,hi1,g0,gs,g1,g2, ?_,rfl,rfl, .inr (.inr ⟨_,rfl,rfl⟩)⟩
  ·intro t' ht'
   rw[List.mem_append,List.mem_singleton] at ht'
   rcases ht' with ht' | rfl
   ·exact hacc t' ht'
   ·exact ht1
  ·simp only[z0c,z0,cond_true,cond_false,List.map_append,List.map_cons,List.map_nil]
 ·simp only[go_sem,]
  refine hex _ _ ?_
  exact hQ acc t _ D i _ _ _ _ _ _ _ _ hlen1 (by omega) hacc hB hD hi (by simp[z0c,g0]) (by simp[z0c,g7])
theorem y1i {e:Nat} (hl:q6i l) (hV:V.length≤400) (he:e≤3) (hN:x1x l) (hF:q5l l V e) (hT:x0f l V e):g3d l V (e + 1):=by
 intro s hs23
 have h1:1≤s:=by omega
 have h2:s≤4:=by omega
 have hI:=k2v he hF hT
 have h6:6 ^ e≤6 ^ 4:=Nat.pow_le_pow_right (by omega) (by omega)
 have h6':1≤6 ^ e:=Nat.pos_of_ne_zero (by simp)
 have hTB:TB s (e + 1)=30 * 6 ^ e:=by rw[j1u];unfold TB;rw[if_neg (by omega)];omega
 have hTB2:TB s e=5 * 6 ^ e:=by unfold TB;rw[if_neg (by omega)]
 have hTB4:TB 4 e=5 * 6 ^ e:=by unfold TB;rw[if_neg (by omega)]
 refine GenOk.of rfl u2p rfl rfl rfl (az:=[nat s,nat (e + 1), .sl (V.map z1h) .no]) rfl (by simp[idsL,z3q,z6b]) fun D B p g i clk T hB hs hD hi hR=> ?_
 have em:=z5x (e:=e) (by omega)
 simp only[go_sem,y0u,hB,nat]
 refine z0t (z3i hl (by decide) (by decide)) hB hs hD hi ?_
 rintro v D2 i2 ⟨r,rfl,hr1,hr2⟩ hB2 hD2 hi2
 obtain⟨q,rfl⟩:∃ k:Nat,r=k:=⟨r.toNat,by omega⟩
 have hq:q < 3∨(3≤q∧q < 5)∨q=5∨q=6∨q=7∨q=8∨q=9:=by omega
 rcases hq with hq | hq | rfl | rfl | rfl | rfl | rfl
 ·
  have e3:decide ((q:Int) < 3)=true:=by rw[decide_eq_true_iff];omega
  simp only[go_sem,e3,em]
  refine z0t (hT s h1 h2) hB2 hs hD2 hi2 ?_
  rintro v D3 i3 ⟨t1,rfl,ht1⟩ hB3 hD3 hi3
  simp only[go_sem,z3m]
  refine z0t (z3i hl (by decide) (by decide)) hB3 hs hD3 hi3 ?_
  rintro v D4 i4 ⟨r4,rfl,hr3,hr4⟩ hB4 hD4 hi4
  obtain⟨n,rfl⟩:∃ k:Nat,r4=k:=⟨r4.toNat,by omega⟩
  simp only[go_sem,]
  refine y1h (n:=n) (i:=i4) he (by omega) h1 h2 hT hB4 hs hD4 hi4 rfl rfl rfl rfl rfl rfl ht1 ?_
  intro acc t ts' D5 i5 a1 a2 a3 a4 a5 a6 a7 clk' hlen1 hlen hacc hB5 hD5 hi5 g0 g7
  have hfl:=x5f (m:=TB s e) (az:=acc) fun t ht=>(hacc t ht).2.1
  have hfl2:acc.length * TB s e≤3 * TB s e:=Nat.mul_le_mul_right _ hlen
  simp only[go_sem,g0,g7]
  rw[z0a (opn (o:=14) (i:=14) (l:=acc) rfl (by omega) (by omega))]
  simp only[go_sem,]
  rw[z1g]
  refine hR _ _ i5 (by rw[z1a hB5 hs];exact hD5) hi5 ⟨_,rfl,⟨(WF.one (q4e fun t ht=>(hacc t ht).1) (.add hlen1 hs23) (by simp[bare])).up (by omega),by rw[List.length_cons];omega,by omega,by omega⟩⟩
 ·
  have e3:decide ((q:Int) < 3)=false:=by rw[decide_eq_false_iff_not];omega
  have e5:decide ((q:Int) < 5)=true:=by rw[decide_eq_true_iff];omega
  simp only[go_sem,e3,e5,em]
  refine z0t (hN s hs23) hB2 hs hD2 hi2 ?_
  rintro v D3 i3 ⟨a,rfl,ha⟩ hB3 hD3 hi3
  simp only[go_sem,em]
  have hp:=x5c (s:=s) (a:=a)
  rw[nat] at hp
  rw[z0a hp]
  simp only[go_sem,em]
  refine z0t (hT s h1 h2) hB3 hs hD3 hi3 ?_
  rintro v D4 i4 ⟨t1,rfl,ht1⟩ hB4 hD4 hi4
  have l1:=ht1.2.1
  simp only[go_sem,z3m]
  rw[z0a (op2 (o:=15) (i:=15) rfl (by simp) (by omega))]
  simp only[go_sem,]
  rw[z1g]
  exact hR _ _ i4 (by rw[z1a hB4 hs];exact hD4) hi4 ⟨_,rfl,(GT.op2 ((GT.num ha).up (d':=e + 4) (m':=1) (by omega) (by omega)) ht1 (.mul hs23 rfl) (by omega) (by omega)).up (by omega) (by omega)⟩
 ·
  simp only[go_sem,Int.reduceEq,Int.reduceLT,decide_true,decide_false]
  refine z0t (hI s h1 h2) hB2 hs hD2 hi2 ?_
  rintro v D3 i3 ⟨t1,rfl,ht1⟩ hB3 hD3 hi3
  simp only[go_sem,]
  rw[z1g]
  exact hR _ _ i3 (by rw[z1a hB3 hs];exact hD3) hi3 ⟨_,rfl,ht1⟩
 ·
  rcases hs23 with rfl | rfl
  ·simp only[go_sem,Int.reduceEq,Int.reduceLT,decide_true,decide_false]
   refine z0t (z3i hl (by decide) (by decide)) hB2 hs hD2 hi2 ?_
   rintro v D3 i3 ⟨r3,rfl,hr3,hr4⟩ hB3 hD3 hi3
   obtain⟨z,rfl⟩:∃ k:Nat,r3=k:=⟨r3.toNat,by omega⟩
   have e7:IntKind.i64.wrap (16 + (z:Int))=((16 + z:Nat):Int):=by rw[z0f (by omega) (by omega)];omega
   simp only[go_sem,e7]
   refine z0t (z3i hl (by decide) (by decide)) hB3 hs hD3 hi3 ?_
   rintro v D4 i4 ⟨r5,rfl,hr5,hr6⟩ hB4 hD4 hi4
   obtain⟨y,rfl⟩:∃ k:Nat,r5=k:=⟨r5.toNat,by omega⟩
   have e8:IntKind.i64.wrap (1 + (y:Int))=((1 + y:Nat):Int):=by rw[z0f (by omega) (by omega)];omega
   simp only[go_sem,e8]
   rw[z0a (q1r (by omega) (by omega)),z3k,if_neg (by omega),Int.natAbs_natCast]
   simp only[go_sem,hB4,z0y,em]
   refine z0t (hT 2 h1 h2) hB4 hs hD4 hi4 ?_
   rintro v D5 i5 ⟨t1,rfl,ht1⟩ hB5 hD5 hi5
   have l1:=ht1.2.1
   simp only[go_sem,z3m]
   have hp:Pure Gam 80 [.agg [.int .i64 ((16 + z:Nat):Int), .int .i64 0, .str [], .str (dec (1 + y)), .int .i64 0], .sl [z0i t1] .full] _:=j1r (n:=⟨16 + z,0,[],dec (1 + y),0⟩) (l:=[t1]) (u:= .full) (by simp) (by simp;omega)
   rw[z0a hp]
   simp only[go_sem,]
   refine⟨by simp[z0v,apart,z0h,z0s,z0w,AOp.isCall,hB4];omega, ?_⟩
   rw[z1g]
   refine hR _ _ i5 (by rw[z1a hB5 hs];exact hD5) hi5 ⟨_,rfl, ?_⟩
   have:=WF.one (n:=⟨16 + z,0,[],dec (1 + y),1⟩) ht1.1 (.div (by omega) (by omega) (by omega)) rfl
   refine⟨?_,by simp;omega,by omega,by omega⟩
   simpa using this
  ·simp only[go_sem,Int.reduceEq,Int.reduceLT,decide_true,decide_false]
   refine z0t (q2d hl h1 h2 hV) hB2 hs hD2 hi2 ?_
   rintro v D3 i3 ⟨t1,rfl,ht1⟩ hB3 hD3 hi3
   simp only[go_sem,]
   rw[z1g]
   exact hR _ _ i3 (by rw[z1a hB3 hs];exact hD3) hi3 ⟨_,rfl,ht1.up (by omega) (by omega)⟩
 ·
  rcases hs23 with rfl | rfl
  ·simp only[go_sem,Int.reduceEq,Int.reduceLT,decide_true,decide_false,em]
   refine z0t (hT 4 (by omega) (by omega)) hB2 hs hD2 hi2 ?_
   rintro v D3 i3 ⟨t1,rfl,ht1⟩ hB3 hD3 hi3
   simp only[go_sem,em]
   refine z0t (hT 2 h1 h2) hB3 hs hD3 hi3 ?_
   rintro v D4 i4 ⟨t2,rfl,ht2⟩ hB4 hD4 hi4
   have l1:=ht1.2.1
   have l2:=ht2.2.1
   simp only[go_sem,z3m]
   rw[z0a (op2 (o:=18) (i:=18) rfl (by omega) (by omega))]
   simp only[go_sem,]
   rw[z1g]
   exact hR _ _ i4 (by rw[z1a hB4 hs];exact hD4) hi4 ⟨_,rfl,(GT.op2 ht1 ht2 .select (by omega) (by omega)).up (by omega) (by omega)⟩
  ·simp only[go_sem,Int.reduceEq,Int.reduceLT,decide_true,decide_false]
   refine z0t (q2d hl h1 h2 hV) hB2 hs hD2 hi2 ?_
   rintro v D3 i3 ⟨t1,rfl,ht1⟩ hB3 hD3 hi3
   simp only[go_sem,]
   rw[z1g]
   exact hR _ _ i3 (by rw[z1a hB3 hs];exact hD3) hi3 ⟨_,rfl,ht1.up (by omega) (by omega)⟩
 ·
  simp only[go_sem,Int.reduceEq,Int.reduceLT,decide_true,decide_false]
  refine z0t (hN s hs23) hB2 hs hD2 hi2 ?_
  rintro v D3 i3 ⟨a,rfl,ha⟩ hB3 hD3 hi3
  simp only[go_sem,]
  have hp:=x5c (s:=s) (a:=a)
  rw[nat] at hp
  rw[z0a hp]
  simp only[go_sem,]
  rw[z1g]
  exact hR _ _ i3 (by rw[z1a hB3 hs];exact hD3) hi3 ⟨_,rfl,(GT.num ha).up (by omega) (by omega)⟩
 ·
  simp only[go_sem,Int.reduceEq,Int.reduceLT,decide_true,decide_false]
  refine z0t (q2d hl h1 h2 hV) hB2 hs hD2 hi2 ?_
  rintro v D3 i3 ⟨t1,rfl,ht1⟩ hB3 hD3 hi3
  simp only[go_sem,]
  rw[z1g]
  exact hR _ _ i3 (by rw[z1a hB3 hs];exact hD3) hi3 ⟨_,rfl,ht1.up (by omega) (by omega)⟩
end
section
variable {l:List Int} {V:List Var}
theorem y1j {e:Nat} (hl:q6i l) (hV:V.length≤400) (he:e≤3) (hN:x1x l) (hF:q5l l V e) (hT:x0f l V e):x0f l V (e + 1):=by
 intro s h1 h2
 have hI:=k2v he hF hT
 have hA:=y1i hl hV he hN hF hT
 have hF1:=v4a hl hV he hF hT
 have h6:6 ^ e≤6 ^ 4:=Nat.pow_le_pow_right (by omega) (by omega)
 have h6':1≤6 ^ e:=Nat.pos_of_ne_zero (by simp)
 have hTB:5 * 6 ^ e≤TB s e:=y1g
 have hTBs:=j1u (s:=s) (e:=e)
 have hT2:TB 2 e=5 * 6 ^ e:=rfl
 have hT4:TB 4 e=5 * 6 ^ e:=rfl
 refine GenOk.of rfl y0q rfl rfl rfl (az:=[nat s,nat (e + 1), .sl (V.map z1h) .no]) rfl (by simp[idsL,z3q,z6b]) fun D B p g i clk T hB hs hD hi hR=> ?_
 have em:=z5x (e:=e) (by omega)
 have e0:decide (((e + 1:Nat):Int)≤0)=false:=by rw[decide_eq_false_iff_not];omega
 simp only[go_sem,v9w,hB,nat,e0]
 refine z0t v9z hB hs hD hi ?_
 rintro v D1 i1 ⟨b,rfl⟩ hB1 hD1 hi1
 simp only[go_sem,]
 refine z8i (fun hc=> ?_) (fun hc=> ?_)
 ·simp only[go_sem,]
  refine z0t (z3i hl (by decide) (by decide)) hB1 hs hD1 hi1 ?_
  rintro v D2 i2 ⟨r,rfl,hr1,hr2⟩ hB2 hD2 hi2
  simp only[go_sem,]
  refine z8i (fun hc=> ?_) (fun hc=> ?_)
  ·simp only[go_sem,]
   refine z0t (k8e hl h1 h2) hB2 hs hD2 hi2 ?_
   rintro v D3 i3 hv hB3 hD3 hi3
   simp only[go_sem,]
   obtain⟨t,hp,hg⟩:=j1t hv
   rw[z0a hp]
   simp only[go_sem,]
   rw[z1g]
   exact hR _ _ i3 (by rw[z1a hB3 hs];exact hD3) hi3 ⟨t,rfl,(hg V).up (by omega) (by omega)⟩
  ·simp only[go_sem,]
   refine z0t (q2d hl h1 h2 hV) hB2 hs hD2 hi2 ?_
   rintro v D3 i3 ⟨t,rfl,ht⟩ hB3 hD3 hi3
   simp only[go_sem,]
   rw[z1g]
   exact hR _ _ i3 (by rw[z1a hB3 hs];exact hD3) hi3 ⟨t,rfl,ht.up (by omega) (by omega)⟩
 clear hD hi hc
 obtain rfl | hs23 | rfl:s=1∨(s=2∨s=3)∨s=4:=by omega
 ·simp only[go_sem,Int.reduceEq,decide_true,decide_false]
  refine z0t hF1 hB1 hs hD1 hi1 ?_
  rintro v D3 i3 ⟨t1,rfl,ht1⟩ hB3 hD3 hi3
  simp only[go_sem,]
  rw[z1g]
  exact hR _ _ i3 (by rw[z1a hB3 hs];exact hD3) hi3 ⟨_,rfl,ht1⟩
 ·have e1:decide ((s:Int)=1)=false:=by rw[decide_eq_false_iff_not];omega
  have e2:decide ((s:Int)=4)=false:=by rw[decide_eq_false_iff_not];omega
  simp only[go_sem,e1,e2]
  refine z0t (hA s hs23) hB1 hs hD1 hi1 ?_
  rintro v D3 i3 ⟨t1,rfl,ht1⟩ hB3 hD3 hi3
  simp only[go_sem,]
  rw[z1g]
  exact hR _ _ i3 (by rw[z1a hB3 hs];exact hD3) hi3 ⟨_,rfl,ht1⟩
 ·simp only[go_sem,Int.reduceEq,decide_true,decide_false]
  refine z0t (z3i hl (by decide) (by decide)) hB1 hs hD1 hi1 ?_
  rintro v D2 i2 ⟨r,rfl,hr1,hr2⟩ hB2 hD2 hi2
  obtain⟨q,rfl⟩:∃ k:Nat,r=k:=⟨r.toNat,by omega⟩
  obtain rfl | hq | rfl | rfl:q=0∨(q=1∨q=2)∨q=3∨q=4:=by omega
  ·simp only[go_sem,Int.reduceEq,decide_true,decide_false,em]
   refine z0t (hT 2 (by omega) (by omega)) hB2 hs hD2 hi2 ?_
   rintro v D3 i3 ⟨t1,rfl,ht1⟩ hB3 hD3 hi3
   have l1:=ht1.2.1
   simp only[go_sem,z3m]
   rw[z0a (op1 (o:=20) (i:=20) rfl (by omega))]
   simp only[go_sem,]
   rw[z1g]
   exact hR _ _ i3 (by rw[z1a hB3 hs];exact hD3) hi3 ⟨_,rfl,(GT.op1 ht1 .const (by omega) (by omega)).up (by omega) (by omega)⟩
  ·rcases hq with rfl | rfl
   all_goals
    simp only[go_sem,Int.reduceEq,decide_true,decide_false,em]
    refine z0t (hT 4 (by omega) (by omega)) hB2 hs hD2 hi2 ?_
    rintro v D3 i3 ⟨t1,rfl,ht1⟩ hB3 hD3 hi3
    simp only[go_sem,em]
    refine z0t (hT 2 (by omega) (by omega)) hB3 hs hD3 hi3 ?_
    rintro v D4 i4 ⟨t2,rfl,ht2⟩ hB4 hD4 hi4
    simp only[go_sem,em]
    refine z0t (hT 2 (by omega) (by omega)) hB4 hs hD4 hi4 ?_
    rintro v D5 i5 ⟨t3,rfl,ht3⟩ hB5 hD5 hi5
    have l1:=ht1.2.1
    have l2:=ht2.2.1
    have l3:=ht3.2.1
    simp only[go_sem,z3m]
    rw[z0a (op3 (o:=19) (i:=19) rfl (by omega) (by omega) (by omega))]
    simp only[go_sem,]
    rw[z1g]
    exact hR _ _ i5 (by rw[z1a hB5 hs];exact hD5) hi5 ⟨_,rfl,(GT.op3 ht1 ht2 ht3 .store (by omega) (by omega)).up (by omega) (by omega)⟩
  ·simp only[go_sem,Int.reduceEq,decide_true,decide_false]
   refine z0t (hI 4 (by omega) (by omega)) hB2 hs hD2 hi2 ?_
   rintro v D3 i3 ⟨t1,rfl,ht1⟩ hB3 hD3 hi3
   simp only[go_sem,]
   rw[z1g]
   exact hR _ _ i3 (by rw[z1a hB3 hs];exact hD3) hi3 ⟨_,rfl,ht1⟩
  ·simp only[go_sem,Int.reduceEq,decide_true,decide_false]
   refine z0t (q2d hl h1 h2 hV) hB2 hs hD2 hi2 ?_
   rintro v D3 i3 ⟨t1,rfl,ht1⟩ hB3 hD3 hi3
   simp only[go_sem,]
   rw[z1g]
   exact hR _ _ i3 (by rw[z1a hB3 hs];exact hD3) hi3 ⟨_,rfl,ht1.up (by omega) (by omega)⟩
theorem q2e (hl:q6i l) (hV:V.length≤400) (hN:x1x l):∀ d,d≤4→x0f l V d∧q5l l V d
 | 0,_=>by
   refine⟨fun s h1 h2 h p g i clk Q hs hi hQ=> ?_,j1v hl hV⟩
   refine q4d hl hV h1 h2 h p g i clk Q hs hi fun v i' hi' hv=>hQ v i' hi' ?_
   obtain⟨t,rfl,ht⟩:=hv
   have:=y1g (s:=s) (e:=0)
   exact⟨t,rfl,ht.up (by omega) (by omega)⟩
 | d + 1,hd=>by
   obtain⟨hT,hF⟩:=q2e hl hV hN d (by omega)
   exact⟨y1j hl hV (by omega) hN hF hT,v4a hl hV (by omega) hF hT⟩
end
section
variable {l:List Int} {V:List Var}
def j1w (l:List Int) (V:List Var) (d:Nat):Prop:=GenOk l 91 [nat d, .sl (V.map z1h) .no] (x0e V 1 (d + 8) (400 * 2 ^ d - 1))
theorem k2w {s k:Nat} (hs:s=2∨s=3) (h:k < 10):u2y s [48 + k]:=by
 rcases hs with rfl | rfl
 ·exact .inl ⟨rfl,x5d h⟩
 ·exact .inr ⟨rfl, .inl (x5d h)⟩
theorem y1k {d:Nat} (hl:q6i l) (hV:V.length≤400) (hd:d≤6) (hF:q5l l V 2) (hG:∀ e,d=e + 1→j1w l V e):j1w l V d:=by
 have h2d:1≤2 ^ d:=Nat.pos_of_ne_zero (by simp)
 have hF2:11 * 6 ^ 2=396:=rfl
 refine GenOk.of rfl u7v rfl rfl rfl (az:=[nat d, .sl (V.map z1h) .no]) rfl (by simp[idsL,z3q,z6b]) fun D B p g i clk T hB hs hD hi hR=> ?_
 simp only[go_sem,u7u,hB,nat]
 refine z0t (z3i hl (by decide) (by decide)) hB hs hD hi ?_
 rintro v D2 i2 ⟨r,rfl,hr1,hr2⟩ hB2 hD2 hi2
 obtain⟨q,rfl⟩:∃ k:Nat,r=k:=⟨r.toNat,by omega⟩
 have hb0:(decide ((d:Int)≤0)=true∧d=0)∨(decide ((d:Int)≤0)=false∧∃ e,d=e + 1):=by
  rcases Nat.eq_zero_or_pos d with rfl | h
  ·exact .inl ⟨rfl,rfl⟩
  ·exact .inr ⟨by rw[decide_eq_false_iff_not];omega,d - 1,by omega⟩
 have F0:∀ (D:List AObj) (i:Nat) (L:List AObj),D.length=B→D[p]? =some (z3v g l i)→i≤l.length→T (z0i [⟨1,0,[],[],0⟩]) (D++L):=fun D i L h1 h2 h3=>hR _ _ i (by rw[z1a h1 hs];exact h2) h3 ⟨_,rfl,(GT.leaf (n:=bare 1 0) (.bool (.inl rfl)) rfl (by omega) (by omega)).up (by omega) (by omega)⟩
 obtain rfl | rfl | rfl | hq | rfl:q=0∨q=1∨q=2∨(q=3∨q=4)∨q=5:=by omega
 ·rcases hb0 with ⟨hb0,_⟩ | ⟨hb0,_⟩
  all_goals
   simp only[go_sem,hb0,Int.reduceEq,decide_true,decide_false,Bool.not_true,Bool.not_false]
   rw[z0a x5b]
   simp only[go_sem,if_true]
   rw[z1g]
   exact F0 D2 i2 _ hB2 hD2 hi2
 ·rcases hb0 with ⟨hb0,_⟩ | ⟨hb0,_⟩
  all_goals
   simp only[go_sem,hb0,Int.reduceEq,decide_true,decide_false,Bool.not_true,Bool.not_false]
   refine z0t (q2d (s:=2) hl (by omega) (by omega) hV) hB2 hs hD2 hi2 ?_
   rintro v D3 i3 ⟨t1,rfl,ht1⟩ hB3 hD3 hi3
   have l1:=ht1.2.1
   simp only[go_sem,]
   refine z0t (z3i hl (by decide) (by decide)) hB3 hs hD3 hi3 ?_
   rintro v D4 i4 ⟨r4,rfl,hr3,hr4⟩ hB4 hD4 hi4
   obtain⟨n,rfl⟩:∃ k:Nat,r4=k:=⟨r4.toNat,by omega⟩
   simp only[go_sem,]
   rw[z0a (q1r (by omega) (by omega)),z7e (by omega)]
   simp only[go_sem,]
   have hp:Pure Gam 157 [.int .i64 2, .str [48 + n]] _:=x5c (s:=2) (a:=[48 + n])
   rw[z0a hp]
   simp only[go_sem,z3m]
   rw[z0a (op2 (o:=12) (i:=12) rfl (by omega) (by simp))]
   simp only[go_sem,]
   rw[z1g]
   exact hR _ _ i4 (by rw[z1a hB4 hs];exact hD4) hi4 ⟨_,rfl,(GT.op2 ht1 ((GT.num (k2w (s:=2) (k:=n) (.inl rfl) (by omega))).up (d':=3) (m':=1) (by omega) (by omega)) (.cmp (.inl rfl) (.inl rfl)) (by omega) (by omega)).up (by omega) (by omega)⟩
 ·rcases hb0 with ⟨hb0,_⟩ | ⟨hb0,_⟩
  all_goals
   simp only[go_sem,hb0,Int.reduceEq,decide_true,decide_false,Bool.not_true,Bool.not_false]
   refine z0t (q2d (s:=2) hl (by omega) (by omega) hV) hB2 hs hD2 hi2 ?_
   rintro v D3 i3 ⟨t1,rfl,ht1⟩ hB3 hD3 hi3
   have l1:=ht1.2.1
   simp only[go_sem,]
   refine z0t (q2d (s:=2) hl (by omega) (by omega) hV) hB3 hs hD3 hi3 ?_
   rintro v D4 i4 ⟨t2,rfl,ht2⟩ hB4 hD4 hi4
   have l2:=ht2.2.1
   simp only[go_sem,]
   refine z0t (z3i hl (by decide) (by decide)) hB4 hs hD4 hi4 ?_
   rintro v D5 i5 ⟨r4,rfl,hr3,hr4⟩ hB5 hD5 hi5
   obtain⟨n,rfl⟩:∃ k:Nat,r4=k:=⟨r4.toNat,by omega⟩
   simp only[go_sem,]
   rw[z0a (q1r (by omega) (by omega)),z7e (by omega)]
   simp only[go_sem,]
   have hp:Pure Gam 157 [.int .i64 2, .str [48 + n]] _:=x5c (s:=2) (a:=[48 + n])
   rw[z0a hp]
   simp only[go_sem,z3m]
   have hadd:=GT.op2 (o:=14) ht2 ((GT.num (V:=V) (k2w (s:=2) (k:=n) (.inl rfl) (by omega))).up (d':=3) (m':=1) (by omega) (by omega)) (.add (k:=2) (by omega) (.inl rfl)) (by omega) (by omega)
   rw[z0a (op2 (o:=14) (i:=14) rfl (by omega) (by simp))]
   simp only[go_sem,z3m]
   rw[z0a (op2 (o:=11) (i:=11) rfl (by omega) (by have:=hadd.2.1;omega))]
   simp only[go_sem,]
   rw[z1g]
   exact hR _ _ i5 (by rw[z1a hB5 hs];exact hD5) hi5 ⟨_,rfl,(GT.op2 (ht1.up (d':=4) (m':=5) (by omega) (by omega)) hadd (.eq (by omega) (by omega)) (by omega) (by omega)).up (by omega) (by omega)⟩
 ·rcases hb0 with ⟨hb0,hd0⟩ | ⟨hb0,e,rfl⟩
  ·rcases hq with rfl | rfl
   all_goals
    simp only[go_sem,hb0,Int.reduceEq,decide_true,decide_false,Bool.not_true,Bool.not_false]
    rw[z0a x5b]
    simp only[go_sem,if_true]
    rw[z1g]
    exact F0 D2 i2 _ hB2 hD2 hi2
  ·have em:=z5x (e:=e) (by omega)
   have hg:=hG e rfl
   have hpow:2 ^ (e + 1)=2 * 2 ^ e:=by rw[Nat.pow_succ,Nat.mul_comm]
   have h2e:2 ^ e≤2 ^ 6:=Nat.pow_le_pow_right (by omega) (by omega)
   rcases hq with rfl | rfl
   ·simp only[go_sem,hb0,Int.reduceEq,decide_true,decide_false,Bool.not_true,Bool.not_false,em]
    refine z0t hg hB2 hs hD2 hi2 ?_
    rintro v D3 i3 ⟨t1,rfl,ht1⟩ hB3 hD3 hi3
    simp only[go_sem,em]
    refine z0t hg hB3 hs hD3 hi3 ?_
    rintro v D4 i4 ⟨t2,rfl,ht2⟩ hB4 hD4 hi4
    have l1:=ht1.2.1
    have l2:=ht2.2.1
    simp only[go_sem,z3m]
    rw[z0a (op2 (o:=7) (i:=7) rfl (by omega) (by omega))]
    simp only[go_sem,]
    rw[z1g]
    exact hR _ _ i4 (by rw[z1a hB4 hs];exact hD4) hi4 ⟨_,rfl,(GT.op2 ht1 ht2 (.andor (k:=2) (.inl rfl)) (by omega) (by omega)).up (by omega) (by omega)⟩
   ·simp only[go_sem,hb0,Int.reduceEq,decide_true,decide_false,Bool.not_true,Bool.not_false,em]
    refine z0t hg hB2 hs hD2 hi2 ?_
    rintro v D3 i3 ⟨t1,rfl,ht1⟩ hB3 hD3 hi3
    simp only[go_sem,em]
    refine z0t hg hB3 hs hD3 hi3 ?_
    rintro v D4 i4 ⟨t2,rfl,ht2⟩ hB4 hD4 hi4
    have l1:=ht1.2.1
    have l2:=ht2.2.1
    simp only[go_sem,z3m]
    rw[z0a (op2 (o:=8) (i:=8) rfl (by omega) (by omega))]
    simp only[go_sem,]
    rw[z1g]
    exact hR _ _ i4 (by rw[z1a hB4 hs];exact hD4) hi4 ⟨_,rfl,(GT.op2 ht1 ht2 (.andor (k:=2) (.inr rfl)) (by omega) (by omega)).up (by omega) (by omega)⟩
 ·rcases hb0 with ⟨hb0,_⟩ | ⟨hb0,_⟩
  all_goals
   simp only[go_sem,hb0,Int.reduceEq,decide_true,decide_false,Bool.not_true,Bool.not_false]
   refine z0t hF hB2 hs hD2 hi2 ?_
   rintro v D3 i3 ⟨t1,rfl,ht1⟩ hB3 hD3 hi3
   simp only[go_sem,]
   rw[z1g]
   exact hR _ _ i3 (by rw[z1a hB3 hs];exact hD3) hi3 ⟨_,rfl,ht1.up (by omega) (by omega)⟩
theorem x9c (hl:q6i l) (hV:V.length≤400) (hN:x1x l):∀ d,d≤6→j1w l V d
 | 0,_=>y1k hl hV (by omega) (q2e hl hV hN 2 (by omega)).2 fun e h=>by omega
 | d + 1,hd=>y1k hl hV hd (q2e hl hV hN 2 (by omega)).2 fun e h=>by
   obtain rfl:e=d:=by omega
   exact x9c hl hV hN e (by omega)
theorem y1l {s:Nat} {u:Tip} (hl:q6i l) (hV:V.length≤400) (hN:x1x l) (h1:1≤s) (h2:s≤4):GenOk l 156 [nat s, .sl (V.map z1h) u] (x0e V s 5 66):=by
 have hT:=(q2e hl hV hN 1 (by omega)).1 s h1 h2
 have hTB:=y1f (s:=s) (e:=1)
 refine GenOk.of rfl u2h rfl rfl rfl (az:=[nat s, .sl (V.map z1h) .no]) rfl (by simp[idsL,z3q,z6b]) fun D B p g i clk T hB hs hD hi hR=> ?_
 simp only[go_sem,y0l,hB,nat]
 refine z0t (z3i hl (by decide) (by decide)) hB hs hD hi ?_
 rintro v D2 i2 ⟨r,rfl,hr1,hr2⟩ hB2 hD2 hi2
 simp only[go_sem,]
 refine z8i (fun hc=> ?_) (fun hc=> ?_)
 ·simp only[go_sem,]
  refine z0t hT hB2 hs hD2 hi2 ?_
  rintro v D3 i3 ⟨t1,rfl,ht1⟩ hB3 hD3 hi3
  simp only[go_sem,]
  rw[z1g]
  exact hR _ _ i3 (by rw[z1a hB3 hs];exact hD3) hi3 ⟨_,rfl,ht1.up (by omega) (by omega)⟩
 ·simp only[go_sem,]
  refine z0t (q2d hl h1 h2 hV) hB2 hs hD2 hi2 ?_
  rintro v D3 i3 ⟨t1,rfl,ht1⟩ hB3 hD3 hi3
  simp only[go_sem,]
  rw[z1g]
  exact hR _ _ i3 (by rw[z1a hB3 hs];exact hD3) hi3 ⟨_,rfl,ht1.up (by omega) (by omega)⟩
end
section
variable {l:List Int} {V:List Var} {ps:List Func}
def x5g (ps:List Func):Prop:=0 < ps.length∧ps.length≤5∧∀ f∈ps,f.args.length≤3∧∀ s∈f.args,1≤s∧s≤4
def AppOk (ps:List Func) (V:List Var) (a:App):Prop:=∃ f∈ps,a.pred=f.name∧a.args.length=f.args.length∧∀ q∈f.args.zip a.args,GT V q.1 5 66 q.2
theorem z8l {l:List Func} {i:Nat} {h:List AObj} {t:Tip} {k:IntKind} (hi:i < l.length):z1n h 3 (.sl (l.map z1e) t) (.int k (i:Int))=some (.iptr [.str l[i].name, .sl (l[i].args.map nat) .no,nat l[i].result] 0,h):=z3j hi rfl rfl
theorem z7y {l:List Nat} {i:Nat} {h:List AObj} {t:Tip} {k:IntKind} (hi:i < l.length):z1n h 1 (.sl (l.map nat) t) (.int k (i:Int))=some (.iptr [nat l[i]] 0,h):=z3j hi rfl rfl
theorem k2x {ps:List Func}:(AV.sl (ps.map z1e) .no).ids=[]:=k2j z2a
theorem j4n {α β:Type} {y:β}:∀ {ys:List β} {xs:List α} (h:ys.length < xs.length),xs.zip (ys++[y])=xs.zip ys++[(xs[ys.length],y)]
 | [],x::xs,_=>by simp
 | z::ys,x::xs,h=>by
   have:=j4n (y:=y) (ys:=ys) (xs:=xs) (by simpa using h)
   simp[this]
theorem y1m {u w:Tip} (hl:q6i l) (hV:V.length≤400) (hN:x1x l) (hP:x5g ps):GenOk l 90 [.sl (ps.map z1e) u, .sl (V.map z1h) w] (fun v=>∃ a,v=z1p a∧AppOk ps V a):=by
 obtain⟨hp0,hp5,hpf⟩:=hP
 refine GenOk.of rfl g2v rfl rfl rfl (az:=[.sl (ps.map z1e) .no, .sl (V.map z1h) .no]) rfl (by simp[idsL,k2x,z6b]) fun D B p g i clk T hB hs hD hi hR=> ?_
 simp only[go_sem,u7t,hB,List.length_map]
 refine z0t (z3i hl (by omega) (by omega)) hB hs hD hi ?_
 rintro v D2 i2 ⟨r,rfl,hr1,hr2⟩ hB2 hD2 hi2
 obtain⟨k,rfl⟩:∃ k:Nat,r=k:=⟨r.toNat,by omega⟩
 have hk:k < ps.length:=by omega
 have hf:=hpf ps[k] (List.getElem_mem hk)
 generalize hfk:ps[k]=f at hf
 have hmem:f∈ps:=hfk ▸ List.getElem_mem hk
 simp only[go_sem,hB2,z8l hk,hfk,nat]
 refine z1q (fun m q=>∃ (j:Nat) (acc:List Term) (t:Tip) (D:List AObj) (i g0 g1 g2:Nat) (o3 o4:AObj),j≤f.args.length∧m=f.args.length - j∧acc.length=j∧(∀ q∈f.args.zip acc,GT V q.1 5 66 q.2)∧D.length=B∧D[p]? =some (z3v g l i)∧i≤l.length∧
  q.ts 0= .ptr p g 0 0∧q.ts 2= .sl (V.map z1h) .no∧q.ts 6= .ptr (B + 0) g0 0 0∧q.ts 7= .ptr (B + 1) g1 0 0∧q.ts 8= .ptr (B + 2) g2 0 0∧q.ts 9= .int .i64 j∧
  q.h=D++[.blk g0 [.agg [.str [], .sl [] .nil]] false false 0, .blk g1 [.agg [.str f.name, .sl (f.args.map nat) .no, .int .i64 (f.result:Int)]] false false 0, .blk g2 [.agg [.str f.name, .sl (acc.map z0i) t]] false false 0,o3,o4]∧z7x B 4 o4 t 1) f.args.length ?_ ?_
 ·exact⟨0,[], .nil,D2,i2,_,_,_,_,_,by simp,rfl,rfl,by simp,hB2,hD2,hi2,rfl,rfl,rfl,rfl,rfl,rfl,rfl, .inl rfl⟩
 clear hB2 hD2 hi2 hB hD hi
 rintro m ⟨ts,h,clk⟩ P ⟨j,acc,t,D,i,g0,g1,g2,o3,o4,hj,rfl,hal,hacc,hB,hD,hi,q0,q2,q6,q7,q8,q9,rfl,ht⟩ hn he hr
 dsimp only at q0 q2 q6 q7 q8 q9
 simp only[go_sem,q0,q2,q6,q7,q8,q9,hB,List.length_map,v9t]
 refine z8i (fun hb=> ?_) (fun hb=> ?_)
 ·have hlt:j < f.args.length:=by simp at hb;omega
  have hsj:=hf.2 f.args[j] (List.getElem_mem hlt)
  have e1:IntKind.i64.wrap ((j:Int) + 1)=((j + 1:Nat):Int):=z0f (by omega) (by omega)
  simp only[go_sem,q0,q2,q6,q7,q8,q9,hB,z0y,z7y hlt]
  refine z0t (y1l hl hV hN hsj.1 hsj.2) hB hs hD hi ?_
  rintro v D1 i1 ⟨t1,rfl,ht1⟩ hB1 hD1 hi1
  simp only[go_sem,q0,q2,q6,q7,q8,q9,hB1,z3m]
  rw[show [z0i t1]=[t1].map z0i from rfl,z0k hB1 rfl ht z4c z4c (by simp only[List.length_map,List.length_singleton];omega)]
  have happ:acc.map z0i++[z0i t1]=(acc++[t1]).map z0i:=by simp
  simp only[go_sem,q0,q2,q6,q7,q8,q9,hB1,e1,happ]
  refine⟨by simp[z0v,apart,z0h,z0s,z0w,AOp.isCall,hB,z3q,z0b];omega, ?_⟩
  refine hn (f.args.length - (j + 1)) _ (by omega) ⟨j + 1,acc++[t1],_,D1,i1,g0,g1,g2,_,_,hlt,rfl,by simp[hal], ?_,hB1,hD1,hi1,q0,q2,q6,q7,q8,rfl,rfl, .inr (.inr ⟨_,rfl,rfl⟩)⟩
  subst hal
  rw[j4n hlt]
  intro q hq
  rw[List.mem_append,List.mem_singleton] at hq
  rcases hq with hq | rfl
  ·exact hacc q hq
  ·exact ht1
 ·have hjf:j=f.args.length:=by simp at hb;omega
  simp only[go_sem,q0,q2,q6,q7,q8,q9,hB]
  refine he _ _ ?_
  simp only[go_sem,q0,q2,q6,q7,q8,q9,hB]
  have hid:(AV.agg [.str f.name, .sl (acc.map z0i) t]).cv.ids=[]:=z4f ⟨f.name,acc⟩
  rw[z2q rfl hid]
  exact hR _ _ i (by rw[z1a hB hs];exact hD) hi ⟨⟨f.name,acc⟩,rfl,f,hmem,rfl,by rw[hal,hjf],hacc⟩
end
section
variable {l:List Int} {V:List Var} {ps:List Func}
theorem GenOk.conv {f:Nat} {args args':List AV} {af:AFun} {R:AV→Prop} (h:GenOk l f args R) (hext:Gam.ext f=none) (hfn:Gam.fn f=some af) (hb:af.byref=[]) (ho:z3y args=[]) (ho':z3y args'=[]) (he:cvL args'=cvL args):GenOk l f args' R:=by
 have hob:∀ s g,z3y (.ptr s g 0 0::args)=[]:=fun s g=>by simp[z3y,AV.obs,ho]
 have hob':∀ s g,z3y (.ptr s g 0 0::args')=[]:=fun s g=>by simp[z3y,AV.obs,ho']
 have hcv:∀ s g,cvL (.ptr s g 0 0::args')=cvL (.ptr s g 0 0::args):=fun s g=>by simp[cvL,he]
 have key:∀ k s g h clk,z5f Gam k f (.ptr s g 0 0::args') h clk=z5f Gam k f (.ptr s g 0 0::args) h clk:=by
  intro k s g h clk
  unfold z5f z0q
  simp only[hext,hfn,hb,z1o (hob s g),z1o (hob' s g),z5a (hob s g),z5a (hob' s g),hcv s g]
 have kf:∀ s g h,z0z Gam f (.ptr s g 0 0::args') h=z0z Gam f (.ptr s g 0 0::args) h:=by
  intro s g h
  unfold z0z
  simp only[hext,hfn,hb,z1o (hob s g),z1o (hob' s g),hob s g,hob' s g,hcv s g]
 intro hh s g i clk Q h1 h2 h3
 obtain⟨⟨k,v,h',c,h4,h5⟩,h6⟩:=h hh s g i clk Q h1 h2 h3
 exact⟨⟨k,v,h',c,by rw[key];exact h4,h5⟩,by rw[kf];exact h6⟩
def z2m:List Var:=[⟨[120],2⟩,⟨[121],2⟩,⟨[122],3⟩,⟨[119],3⟩,⟨[112],1⟩,⟨[98],1⟩,⟨[97],4⟩,⟨[99],4⟩]
theorem y1n:Pure Gam 89 [] (.sl (z2m.map z1h) .no):=Pure.tab (tab:=v6l) rfl rfl rfl
def y1o (ps:List Func) (V:List Var) (a:App):Prop:=(a.pred=[]∧a.args=[])∨AppOk ps V a
def ClauseOk (ps:List Func) (c:Clause):Prop:=List.Sublist c.vars z2m∧c.body.length≤2∧(∀ a∈c.body,AppOk ps c.vars a)∧GT c.vars 1 11 3199 c.guard∧y1o ps c.vars c.head
theorem w0r {B p g i clk g0:Nat} {D:List AObj} {ts:Tmps} {o b c d x y:AObj} {ks:List Kf} {Q:Post} (hl:q6i l) (hB:D.length=B) (hs:p < B) (hD:D[p]? =some (z3v g l i)) (hi:i≤l.length) {q:Bool}
  (h0:ts 0= .ptr p g 0 0) (h1:ts 1= .sl (ps.map z1e) .no) (h2:ts 2= .bool q) (h6:ts 6= .ptr (B + 0) g0 0 0) (h7:ts 7= .sl (z2m.map z1h) .no) (h8:ts 8= .sl [] .nil) (h9:ts 9= .int .i64 0)
  (hQ:∀ (acc:List Var) (t:Tip) (ts':Tmps) (D':List AObj) (i':Nat) (b c d x y:AObj) (clk':Nat),acc.Sublist z2m→D'.length=B→D'[p]? =some (z3v g l i')→i'≤l.length→ts' 0= .ptr p g 0 0→ts' 1= .sl (ps.map z1e) .no→ts' 2= .bool q→ts' 6= .ptr (B + 0) g0 0 0→ts' 8= .sl (acc.map z1h) t→K Gam B (.exit 0) ks ⟨ts',D'++[o,b,c,d,x,y],clk'⟩ Q):
  K Gam B (.loop k7s) ks ⟨ts,D++[o,b,c,d,x,y],clk⟩ Q:=by
 refine z1q (fun m s=>∃ (j:Nat) (acc:List Var) (t:Tip) (D:List AObj) (i:Nat) (b c d x y:AObj),j≤8∧m=8 - j∧acc.Sublist (z2m.take j)∧D.length=B∧D[p]? =some (z3v g l i)∧i≤l.length∧s.ts 0= .ptr p g 0 0∧s.ts 1= .sl (ps.map z1e) .no∧s.ts 2= .bool q∧s.ts 6= .ptr (B + 0) g0 0 0∧s.ts 7= .sl (z2m.map z1h) .no∧s.ts 8= .sl (acc.map z1h) t∧s.ts 9= .int .i64 (j:Int)∧s.h=D++[o,b,c,d,x,y]∧z7x B 2 c t 2) 8 ?_ ?_
 ·exact⟨0,[], .nil,D,i,_,_,_,_,_,by omega,rfl,by simp,hB,hD,hi,h0,h1,h2,h6,h7,h8,h9,rfl, .inl rfl⟩
 clear h0 h1 h2 h6 h7 h8 h9 hB hD hi
 rintro m ⟨ts,h,clk⟩ P ⟨j,acc,t,D,i,b,c,d,x,y,hj,rfl,hacc,hB,hD,hi,h0,h1,h2,h6,h7,h8,h9,rfl,ht⟩ hn he hr
 dsimp only at h0 h1 h2 h6 h7 h8 h9
 have hlen:z2m.length=8:=rfl
 simp only[go_sem,h0,h1,h2,h6,h7,h8,h9,List.length_map,hlen,k7s]
 refine z8i (fun hb=> ?_) (fun hb=> ?_)
 ·have hlt:j < z2m.length:=by simp at hb;omega
  have e1:IntKind.i64.wrap ((j:Int) + 1)=((j + 1:Nat):Int):=z0f (by omega) (by omega)
  have hal:acc.length≤8:=by have:=hacc.length_le;simp at this;omega
  simp only[go_sem,h0,h1,h2,h6,h7,h8,h9]
  refine z0t (z3i hl (by decide) (by decide)) hB hs hD hi ?_
  rintro v D2 i2 ⟨r,rfl,hr1,hr2⟩ hB2 hD2 hi2
  simp only[go_sem,h0,h1,h2,h6,h7,h8,h9]
  refine z8i (fun hc=> ?_) (fun hc=> ?_)
  ·simp only[go_sem,h0,h1,h2,h6,h7,h8,h9,z9a hlt,nat]
   rw[show [AV.agg [.str z2m[j].name, .int .i64 (z2m[j].sort:Int)]]=[z2m[j]].map z1h from rfl,z0k hB2 rfl ht z3d z3d (by simp only[List.length_map,List.length_singleton];omega)]
   simp only[go_sem,h0,h1,h2,h6,h7,h8,h9,e1]
   refine hn (8 - (j + 1)) _ (by omega) ⟨j + 1,acc++[z2m[j]],_,D2,i2,_,_,_,_,_,by omega,rfl, ?_,hB2,hD2,hi2,h0,h1,h2,h6,h7, ?_,rfl,rfl, .inr (.inr ⟨_,rfl,rfl⟩)⟩
   ·rw[List.take_succ_eq_append_getElem hlt]
    exact hacc.append (List.Sublist.refl _)
   ·simp only[z0c,z0,cond_true,cond_false,List.map_append,List.map_cons,List.map_nil]
  ·simp only[go_sem,h0,h1,h2,h6,h7,h8,h9,e1]
   refine hn (8 - (j + 1)) _ (by omega) ⟨j + 1,acc,t,D2,i2,_,_,_,_,_,by omega,rfl, ?_,hB2,hD2,hi2,h0,h1,h2,h6,h7,h8,rfl,rfl,ht⟩
   rw[List.take_succ_eq_append_getElem hlt]
   exact hacc.trans (List.sublist_append_left _ _)
 ·simp only[go_sem,]
  refine he _ _ ?_
  exact hQ acc t _ D i _ _ _ _ _ _ (hacc.trans (List.take_sublist _ _)) hB hD hi (by simp[z0c,h0]) (by simp[z0c,h1]) (by simp[z0c,h2]) (by simp[z0c,h6]) (by simp[z0c,h8])
end
section
variable {l:List Int} {V:List Var} {ps:List Func}
def k2y (V:List Var) (tv:Tip) (body:List App) (tb:Tip):AV:= .agg [.sl (V.map z1h) tv, .sl (body.map z1p) tb, .sl [] .nil, .str [], .sl [] .nil]
theorem k8g {B p g i clk g0 g3 n:Nat} {D:List AObj} {ts:Tmps} {o b c x y:AObj} {ks:List Kf} {Q:Post} {tv:Tip} (hl:q6i l) (hV:V.length≤400) (hN:x1x l) (hP:x5g ps) (hn:n≤2) (hB:D.length=B) (hs:p < B) (hD:D[p]? =some (z3v g l i)) (hi:i≤l.length) {q:Bool}
  (h0:ts 0= .ptr p g 0 0) (h1:ts 1= .sl (ps.map z1e) .no) (h2:ts 2= .bool q) (h6:ts 6= .ptr (B + 0) g0 0 0) (h8:ts 8= .sl (V.map z1h) tv) (h10:ts 10= .ptr (B + 3) g3 0 0) (h11:ts 11= .int .i64 (n:Int))
  (hQ:∀ (acc:List App) (t:Tip) (ts':Tmps) (D':List AObj) (i':Nat) (b c x y:AObj) (clk':Nat),acc.length≤2→(∀ a∈acc,AppOk ps V a)→D'.length=B→D'[p]? =some (z3v g l i')→i'≤l.length→ts' 0= .ptr p g 0 0→ts' 1= .sl (ps.map z1e) .no→ts' 2= .bool q→ts' 6= .ptr (B + 0) g0 0 0→ts' 8= .sl (V.map z1h) tv→ts' 10= .ptr (B + 3) g3 0 0→K Gam B (.exit 2) ks ⟨ts',D'++[o,b,c, .blk g3 [k2y V tv acc t] false false 0,x,y],clk'⟩ Q):
  K Gam B (.loop k1y) ks ⟨ts,D++[o,b,c, .blk g3 [k2y V tv [] .nil] false false 0,x,y],clk⟩ Q:=by
 refine z1q (fun m s=>∃ (n:Nat) (acc:List App) (t:Tip) (D:List AObj) (i:Nat) (b c x y:AObj),m=n∧acc.length + n≤2∧(∀ a∈acc,AppOk ps V a)∧D.length=B∧D[p]? =some (z3v g l i)∧i≤l.length∧s.ts 0= .ptr p g 0 0∧s.ts 1= .sl (ps.map z1e) .no∧s.ts 2= .bool q∧s.ts 6= .ptr (B + 0) g0 0 0∧s.ts 8= .sl (V.map z1h) tv∧s.ts 10= .ptr (B + 3) g3 0 0∧s.ts 11= .int .i64 (n:Int)∧s.h=D++[o,b,c, .blk g3 [k2y V tv acc t] false false 0,x,y]∧z7x B 5 y t 2) n ?_ ?_
 ·exact⟨n,[], .nil,D,i,_,_,_,_,rfl,by simpa using hn,by simp,hB,hD,hi,h0,h1,h2,h6,h8,h10,h11,rfl, .inl rfl⟩
 clear h0 h1 h2 h6 h8 h10 h11 hB hD hi
 rintro m ⟨ts,h,clk⟩ P ⟨n,acc,t,D,i,b,c,x,y,rfl,hlen,hacc,hB,hD,hi,h0,h1,h2,h6,h8,h10,h11,rfl,ht⟩ hnx he hr
 dsimp only at h0 h1 h2 h6 h8 h10 h11
 simp only[go_sem,h0,h1,h2,h6,h8,h10,h11,k1y]
 refine z8i (fun hb=> ?_) (fun hb=> ?_)
 ·have hpos:0 < m:=by simp at hb;omega
  obtain⟨n',rfl⟩:∃ n',m=n' + 1:=⟨m - 1,by omega⟩
  have en:IntKind.i64.wrap (((n' + 1:Nat):Int) - 1)=(n':Int):=z5x (by omega)
  simp only[go_sem,h0,h1,h2,h6,h8,h10,h11,z0y,hB,k2y]
  refine z0t (y1m hl hV hN hP) hB hs hD hi ?_
  rintro v D1 i1 ⟨a,rfl,ha⟩ hB1 hD1 hi1
  have happ:acc.map z1p++[z1p a]=(acc++[a]).map z1p:=by simp
  have hbs:∀ h,bsV h (.agg [.str [], .sl [] .nil]) 1 [0] [z1p a]=some (.sl [z1p a] .full,h):=fun h=>y8j rfl rfl rfl rfl
  simp only[go_sem,h0,h1,h2,h6,h8,h10,h11,hB1,hbs]
  rw[show [z1p a]=[a].map z1p from rfl,z0k hB1 rfl ht z3n z3n (by simp only[List.length_map,List.length_singleton];omega)]
  simp only[go_sem,h0,h1,h2,h6,h8,h10,h11,hB1,en,happ]
  refine⟨by simp[z0v,apart,z0h,z0s,z0w,AOp.isCall,hB];omega, ?_⟩
  refine hnx n' _ (by omega) ⟨n',acc++[a],_,D1,i1,_,_,_,_,rfl,by simp;omega, ?_,hB1,hD1,hi1,h0,h1,h2,h6,h8,h10,rfl,rfl, .inr (.inr ⟨_,rfl,rfl⟩)⟩
  intro a' ha'
  rw[List.mem_append,List.mem_singleton] at ha'
  rcases ha' with ha' | rfl
  ·exact hacc a' ha'
  ·exact ha
 ·simp only[go_sem,]
  refine he _ _ ?_
  exact hQ acc t _ D i _ _ _ _ _ (by omega) hacc hB hD hi (by simp[z0c,h0]) (by simp[z0c,h1]) (by simp[z0c,h2]) (by simp[z0c,h6]) (by simp[z0c,h8]) (by simp[z0c,h10])
theorem u2z {u:Tip} {q:Bool} (hl:q6i l) (hN:x1x l) (hP:x5g ps):GenOk l 47 [.sl (ps.map z1e) u, .bool q] (fun v=>∃ c,v=z0e c∧ClauseOk ps c):=by
 refine GenOk.of rfl u7q rfl rfl rfl (az:=[.sl (ps.map z1e) .no, .bool q]) rfl (by simp[idsL,AV.ids,z0b z2a]) fun D B p g i clk T hB hs hD hi hR=> ?_
 simp only[go_sem,u7p,hB]
 rw[z0a y1n]
 simp only[go_sem,]
 refine w0r (q:=q) (ps:=ps) hl hB hs hD hi rfl rfl rfl rfl rfl rfl rfl ?_
 clear hB hD hi
 intro V tv ts D i b c d x y clk1 hsub hB hD hi h0 h1 h2 h6 h8
 have hV:V.length≤400:=by have:=hsub.length_le;simp[z2m] at this;omega
 simp only[go_sem,h0,h1,h2,h6,h8,hB]
 refine z0t (z3i hl (by decide) (by decide)) hB hs hD hi ?_
 clear hB hD hi
 rintro v D i ⟨r,rfl,hr1,hr2⟩ hB hD hi
 obtain⟨n,rfl⟩:∃ k:Nat,r=k:=⟨r.toNat,by omega⟩
 simp only[go_sem,h0,h1,h2,h6,h8,hB]
 refine k8g (g0:=clk) (n:=n) (q:=q) (V:=V) (tv:=tv) hl hV hN hP (by omega) hB hs hD hi (by simp[z0c,h0]) (by simp[z0c,h1]) (by simp[z0c,h2]) (by simp[z0c,h6]) (by simp[z0c,h8]) rfl rfl ?_
 clear hB hD hi
 intro body tb ts2 D i b2 c2 x2 y2 clk2 hlen hbody hB hD hi q0 q1 q2 q6 q8 q10
 simp only[go_sem,q0,q1,q2,q6,q8,q10,hB,k2y]
 have hG:=GenOk.conv (args':=[nat 3, .sl (V.map z1h) tv]) (x9c (V:=V) hl hV hN 3 (by omega)) rfl u7v rfl rfl rfl rfl
 refine z0t hG hB hs hD hi ?_
 clear hB hD hi
 rintro v D i ⟨gd,rfl,hgd⟩ hB hD hi
 simp only[go_sem,q0,q1,q2,q6,q8,q10,hB,z0i]
 refine z8i (fun hc=> ?_) (fun hc=> ?_)
 ·simp only[go_sem,q0,q1,q2,q6,q8,q10,hB]
  refine z0t (y1m hl hV hN hP) hB hs hD hi ?_
  clear hB hD hi
  rintro v D i ⟨a,rfl,ha⟩ hB hD hi
  simp only[go_sem,q0,q1,q2,q6,q8,q10,hB,z1p]
  have hid:(AV.agg [.sl (V.map z1h) tv, .sl (body.map z1p) tb, .sl (gd.map eNode) .no, .str a.pred, .sl (a.args.map z0i) .no]).cv.ids=[]:=z1j ⟨V,body,gd,a⟩
  rw[z2q rfl hid]
  exact hR _ _ i (by rw[z1a hB hs];exact hD) hi ⟨⟨V,body,gd,a⟩,rfl,hsub,hlen,hbody,hgd, .inr ha⟩
 ·simp only[go_sem,q0,q1,q2,q6,q8,q10,hB]
  have hid:(AV.agg [.sl (V.map z1h) tv, .sl (body.map z1p) tb, .sl (gd.map eNode) .no, .str [], .sl [] .nil]).cv.ids=[]:=z1j ⟨V,body,gd,⟨[],[]⟩⟩
  rw[z2q rfl hid]
  exact hR _ _ i (by rw[z1a hB hs];exact hD) hi ⟨⟨V,body,gd,⟨[],[]⟩⟩,rfl,hsub,hlen,hbody,hgd, .inl ⟨rfl,rfl⟩⟩
end
theorem q8h {h:List AObj} {e n:Nat} {xs:List AV} {t:Tip} {k:IntKind} (hn:n≤xs.length) (he:z5m e xs=true):slV h (some e) (.sl xs t) none (some (.int k (n:Int))) none=some (.sl (xs.take n) (if n=xs.length then (if t= .nil then .nil else t) else .no),h):=by
 simp[slV,z3c,z5l,hn,he]
theorem u3a {zs:List Int} {u:Tip} {h:List AObj} {clk:Nat}:∃ k g c,z5f Gam k 14 [.sl (z6z zs) u] h clk=some (.ptr h.length g 0 0,h++[z3v g (zs.take 400) 0],c):=by
 have hw:∀ (D:List AObj) (B:Nat),D.length=B→K Gam B k7r.body [] ⟨z9z [.sl (z6z zs) .no],D++List.replicate k7r.nslots .dead,clk⟩ (fun e s=>e= .ret∧∃ g,s.ts 2= .ptr (B + 0) g 0 0∧s.h=D++[z3v g (zs.take 400) 0]):=by
  intro D B hB
  have hm:(if (400:Int) < (zs.length:Int) then (400:Int) else (zs.length:Int))=((min zs.length 400:Nat):Int):=by
   split <;> omega
  have hh:z5m 1 (z6z zs)=true:=by cases zs <;> rfl
  have ht:(z6z zs).take (min zs.length 400)=z6z (zs.take 400):=by
   rw[z6z,z6z,←List.map_take]
   congr 1
   rcases Nat.le_total zs.length 400 with h | h
   ·rw[Nat.min_eq_left h,List.take_length,List.take_of_length_le h]
   ·rw[Nat.min_eq_right h]
  simp only[go_sem,k7r,hB,q1d,hm,q8h (xs:=z6z zs) (n:=min zs.length 400) (by rw[q1d];omega) hh,ht]
  exact⟨_,rfl,by simp[z3v]⟩
 obtain⟨k,e,s,he,rfl,g,hp,hs⟩:=hw (maskFrom [] 0 h) _ rfl
 rw[z5b] at he hp
 have hpa:z1d h k7r.byref 0 [.sl (z6z zs) u]=some [.sl (z6z zs) .no]:=rfl
 have hl:z0p k7r.byref 0 [.sl (z6z zs) u]=[]:=rfl
 have hids:idsL [.sl (z6z zs) .no]=[]:=by simp[idsL,AV.ids,z8k]
 have hres:z1z s.h s.ts k7r.results=some [.ptr (h.length + 0) g 0 0]:=by simp only[k7r,z1z,hp,Option.map_some]
 refine⟨k,g,s.clk, ?_⟩
 unfold z5f z0q
 simp only[show Gam.ext 14=none from rfl,g2p,hpa,hl,freezeAll,hids,reach,he,show k7r.owned=false from rfl,Bool.false_eq_true,if_false,hres,z1l,conv,AV.obs,z7t]
 rw[if_neg (by simp[AV.ids])]
 rw[hs,←z5b (T:=[]) (h:=h) (k:=0),List.drop_left]
 simp
theorem z1w {l:List Int} {f B k g i clk gg:Nat} {args:List AV} {R:AV→Prop} {D L:List AObj} {m:Md} {dst:Option Nat} {os:List AOper} {ts:Tmps} {ks:List Kf} {Q:Post} (hg:GenOk l f args R) (hB:D.length=B) (hL:L[k]? =some (z3v g l i)) (hi:i≤l.length)
  (hQ:∀ v i',R v→i'≤l.length→O Gam B (m.add ([B + k],[B + k])) (gg + 1) os ⟨z8c ts dst v,D++L.set k (z3v g l i'),clk⟩ ks Q):CK Gam B f (.ptr (B + k) g 0 0::args) (D++L) clk m dst gg os ts ks Q:=by
 unfold CK
 have hD':(D++L)[B + k]? =some (z3v g l i):=by rw[z2v hB];exact hL
 obtain⟨_,hf⟩:=hg (D++L) (B + k) g i clk (fun _ _ _=>True) hD' hi (fun _ _ _ _=>trivial)
 refine (hg (D++L) (B + k) g i clk _ hD' hi fun v i' hi' hv=> ?_).1
 refine x9a (f':=([B + k],[B + k])) ?_ ?_ ?_
 ·rw[hf];exact fun x hx=>hx
 ·rw[hf];exact fun x hx=>(List.mem_filter.1 hx).1
 ·rw[z1t hB]
  exact hQ v i' hv hi'
def z2d:List Func:=[⟨[80],[2],1⟩,⟨[81],[2,2],1⟩,⟨[82],[1,2,2],1⟩,⟨[90],[],1⟩,⟨[83],[3,4],1⟩]
def z6r:Func:=⟨[78],[2],1⟩
def allPreds:List Func:=[⟨[80],[2],1⟩,⟨[81],[2,2],1⟩,⟨[82],[1,2,2],1⟩,⟨[90],[],1⟩,⟨[83],[3,4],1⟩,⟨[78],[2],1⟩]
theorem k8h {n:Nat} (h1:0 < n):x5g (z2d.take n):=by
 refine⟨by simp[z2d];omega,by simp[z2d];omega,fun f hf=> ?_⟩
 have:=List.mem_of_mem_take hf
 simp only[z2d,List.mem_cons,List.not_mem_nil,or_false] at this
 rcases this with rfl | rfl | rfl | rfl | rfl <;> simp
def SysOk (s:Sys):Prop:=(∃ n,2≤n∧n≤5∧s.preds=z2d.take n)∧s.clauses.length≤8∧∀ c∈s.clauses,ClauseOk s.preds c
theorem j4o {zs:List Int} {u:Tip} {B gg clk:Nat} {D L:List AObj} {m:Md} {dst:Option Nat} {os:List AOper} {ts:Tmps} {ks:List Kf} {Q:Post} (hQ:∀ g c,O Gam B (m.add (z3z (z0z Gam 14 [.sl (z6z zs) u] (D++L)) (D++L) ((D++L)++[z3v g (zs.take 400) 0]))) (gg + 1) os ⟨z8c ts dst (.ptr (D++L).length g 0 0),(D++L)++[z3v g (zs.take 400) 0],c⟩ ks Q):CK Gam B 14 [.sl (z6z zs) u] (D++L) clk m dst gg os ts ks Q:=by
 obtain⟨k,g,c,hk⟩:=u3a (u:=u) (h:=D++L) (clk:=clk)
 exact⟨k,_,_,_,hk,hQ g c⟩
end Go.Proofs.YtdfepmffiampgaaGreatDoor.Am
