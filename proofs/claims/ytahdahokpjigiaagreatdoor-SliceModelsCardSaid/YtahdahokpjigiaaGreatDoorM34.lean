/- Walking: a transformation is chosen Walking: SliceApply Functions of the abstract machine's program Walking: models are copied and compared -/
import Derived.Test.YtahdahokpjigiaaGreatDoorM33
set_option linter.all false
namespace Go.Proofs.YtahdahokpjigiaaGreatDoor.Am
open Go
set_option maxRecDepth 100000
def q7d:List (List Nat):=[[80],[81],[82],[90],[83],[78],[]]
theorem bs7 {h:List AObj}:bsV h (.str []) 7 [0,1,2,3,4,5,6] [.str [80], .str [81], .str [82], .str [90], .str [83], .str [78], .str []]=some (.sl (z1t q7d) .full,h):=(rfl)
theorem x8e {n:Nat} (hn:n < 7) {h:List AObj} {k:IntKind}:z1m h 1 (.sl (z1t q7d) .full) (.int k (n:Int))=some (.iptr [.str (q7d[n]'hn)] 0,h):=q5k hn
theorem x5f {h:List AObj} {e n:Nat} {xs:List AV} {t:Tip} {k:IntKind} (hn:n≤xs.length) (he:z4l e xs=true):slV h (some e) (.sl xs t) (some (.int k (n:Int))) none none=some (.sl (xs.drop n) (if t= .nil then .nil else t),h):=by
 simp[slV,z2v,z4v,hn,he]
theorem x8f {l:List (List Nat)}:z4l 1 (z1t l)=true:=by cases l <;> rfl
def x8g (a:AV):Prop:=a.cv=a∧a.obs=[]∧a.one=true∧a.ids=[]
theorem SmallV.five {s:Nat} {v:AV} (h:SmallV s v):∃ a b c d e,v= .agg [a,b,c,d,e]∧x8g a∧x8g b∧x8g c∧x8g d∧x8g e:=by
 obtain⟨t,q1,q2,q3,q4,q5,q6,q7,q8⟩:=h
 clear q1 q2
 cases v <;> simp only[AV.cells,List.length_singleton] at q7 <;> try omega
 rename_i cs
 match cs,q7 with
 | [a,b,c,d,e],_=>
   simp only[AV.obs,z4k,List.append_eq_nil_iff,and_true] at q3
   simp only[AV.ids,idsL,List.append_eq_nil_iff,and_true] at q5
   simp only[AV.cv,cvL,AV.agg.injEq,List.cons.injEq,and_true] at q4
   simp only[AV.cells,List.all_cons,List.all_nil,Bool.and_true,Bool.and_eq_true] at q8
   exact⟨a,b,c,d,e,rfl,⟨q4.1,q3.1,q8.1,q5.1⟩,⟨q4.2.1,q3.2.1,q8.2.1,q5.2.1⟩,⟨q4.2.2.1,q3.2.2.1,q8.2.2.1,q5.2.2.1⟩,⟨q4.2.2.2.1,q3.2.2.2.1,q8.2.2.2.1,q5.2.2.2.1⟩,⟨q4.2.2.2.2,q3.2.2.2.2,q8.2.2.2.2,q5.2.2.2.2⟩⟩
def y2a (B j:Nat) (R:List AObj) (i:Nat) (t:Tip):Prop:=t= .nil∨∃ g,t= .at (B + j) g∧R[i]? =some (.tip g 1)
theorem y8w {D R:List AObj} {B:Nat} {t:Tip} {l m:List (List Nat)} (hB:D.length=B) (ht:y2a B 17 R 6 t) (hl:l.length + m.length≤1000):∃ R',∀ (gen:Nat) (u:Tip) (a0 a1 a2 a3 a4 a5 a6 a7 a8 a9 a10:AObj),z1g (D++a0::a1::a2::a3::a4::a5::a6::a7::a8::a9::a10::R) (B + 5) gen 1 16 false (.sl (z1t l) t) (.sl (z1t m) u)=some (.sl (z1t (l++m)) (.at (B + 5) gen),D++a0::a1::a2::a3::a4:: .tip gen 1::a6::a7::a8::a9::a10::R'):=by
 have e:z1t (l++m)=z1t l++z1t m:=List.map_append
 have hsz:((z1t l).length + (z1t m).length) * (16 + 1)≤2 ^ 46:=by simp only[z1t,List.length_map];omega
 rw[e]
 rcases ht with rfl | ⟨g,rfl,hR⟩
 ·exact⟨R,fun gen u a0 a1 a2 a3 a4 a5 a6 a7 a8 a9 a10=>z0j (k:=5) hB rfl (.inl rfl) z1u z1u hsz⟩
 ·exact⟨R.set 6 .dead,fun gen u a0 a1 a2 a3 a4 a5 a6 a7 a8 a9 a10=>q2w (j:=17) (k:=5) hB (by simpa using hR) z1u z1u hsz⟩
theorem y8x {D R:List AObj} {B:Nat} {t:Tip} {l m:List (List Nat)} (hB:D.length=B) (ht:y2a B 15 R 4 t) (hl:l.length + m.length≤1000):∃ R',∀ (gen:Nat) (u:Tip) (a0 a1 a2 a3 a4 a5 a6 a7 a8 a9 a10:AObj),z1g (D++a0::a1::a2::a3::a4::a5::a6::a7::a8::a9::a10::R) (B + 7) gen 1 16 false (.sl (z1t l) t) (.sl (z1t m) u)=some (.sl (z1t (l++m)) (.at (B + 7) gen),D++a0::a1::a2::a3::a4::a5::a6:: .tip gen 1::a8::a9::a10::R'):=by
 have e:z1t (l++m)=z1t l++z1t m:=List.map_append
 have hsz:((z1t l).length + (z1t m).length) * (16 + 1)≤2 ^ 46:=by simp only[z1t,List.length_map];omega
 rw[e]
 rcases ht with rfl | ⟨g,rfl,hR⟩
 ·exact⟨R,fun gen u a0 a1 a2 a3 a4 a5 a6 a7 a8 a9 a10=>z0j (k:=7) hB rfl (.inl rfl) z1u z1u hsz⟩
 ·exact⟨R.set 4 .dead,fun gen u a0 a1 a2 a3 a4 a5 a6 a7 a8 a9 a10=>q2w (j:=15) (k:=7) hB (by simpa using hR) z1u z1u hsz⟩
theorem u6a {s:Sys} {zs:List Int} {u:Tip} {odd:Bool} {h:List AObj} {clk:Nat} {Q:AV→List AObj→Nat→Prop} (hs:SysV s) (hz:∀ z∈zs, -9223372036854775808≤z∧z≤9223372036854775807) (hQ:∀ y,TfS y→(odd=false→y=z2s s)→Q (eTf y) h clk):WC Gam 15 [z0x s, .sl (z9y zs) u, .bool odd] h clk Q:=by
 have hl:q7q (zs.take 400):=⟨by simp;omega,fun z h=>hz z (List.mem_of_mem_take h)⟩
 have hfl:=k2m hs
 rw[List.length_append] at hfl
 have hft:TfS (z2s s):=⟨by omega,by omega,rfl⟩
 have e41:(z2s s).kind=2:=rfl
 refine q5x rfl u4g rfl rfl rfl (az:=[z0x s, .sl (z9y zs) .no, .bool odd]) rfl (by simp[idsL,z2c,AV.ids,z8d]) fun D B T hB hT=> ?_
 simp only[go_sem,y9t,hB,z0x]
 refine k1b fun g c=> ?_
 have e0:∀ x0 x1 x2 x3 x4 x5 x6 x7 x8 x9:AObj,(D++[x0,x1,x2,x3,x4,x5,x6,x7,x8,x9]).length=B + 10:=fun _ _ _ _ _ _ _ _ _ _=>by simp[hB]
 have e1:∀ x0 x1 x2 x3 x4 x5 x6 x7 x8 x9 o:AObj,(D++[x0,x1,x2,x3,x4,x5,x6,x7,x8,x9])++[o]=D++[x0,x1,x2,x3,x4,x5,x6,x7,x8,x9,o]:=fun _ _ _ _ _ _ _ _ _ _ _=>by simp
 have e2:∀ x0 x1 x2 x3 x4 x5 x6 x7 x8 x9 o:AObj,(D++[x0,x1,x2,x3,x4,x5,x6,x7,x8,x9,o]).length=B + 11:=fun _ _ _ _ _ _ _ _ _ _ _=>by simp[hB]
 rw[e0,e1]
 generalize zs.take 400=l at hl
 simp only[go_sem,hB]
 have h22:=fun h clk Q=>u5z (s:=s) (h:=h) (clk:=clk) (Q:=Q) hs
 rw[z0x] at h22
 refine z6f (h22 _ _ _ fun t1 t2 o0 o1 o2 o3 o4 o5 o6 R c2 ht1 ht2 hR=> ?_)
 rw[e2] at ht1 ht2
 have hr1:y2a B 17 R 6 t1:=by
  rcases hR with rfl | ⟨_,h,_⟩
  ·exact ht1.imp id fun ⟨g,h1,h2⟩=>⟨g,h1,by rw[h2];rfl⟩
  ·exact .inl h
 have hr2:y2a B 15 R 4 t2:=by
  rcases hR with rfl | ⟨_,_,h⟩
  ·exact ht2.imp id fun ⟨g,h1,h2⟩=>⟨g,h1,by rw[h2];rfl⟩
  ·exact .inl h
 clear ht1 ht2 hR h22 e0 e1 e2
 have fin:∀ y:Tf,TfS y→(odd=false→y=z2s s)→∀ (ta tb tc:Tip) (h':List AObj),RV [] (some [.agg [.int .i64 y.kind, .str y.pred, .str y.into, .int .i64 y.clause, .int .i64 y.atom, .sl (z1t y.un) ta, .sl (z1t y.und) tb, .sl y.drops tc]]) (fun v h'=>T v h') h':=by
  intro y hy ho ta tb tc h'
  rw[z2x rfl (by simp[AV.cv,cvL,AV.ids,idsL,z2d,hy.drops])]
  exact hT _ _ (hQ y hy ho)
 have hu:=hft.un
 have hd:=hft.und
 cases odd with
 | false=>
   simp only[go_sem,hB,tfA,List.append_assoc,Bool.not_false,z0n,z0m,z0g]
   exact fin (z2s s) hft (fun _=>rfl) _ _ _ _
 | true=>
   replace fin:=fun y hy=>fin y hy (fun h=>by cases h)
   simp only[go_sem,hB,tfA,List.append_assoc,Bool.not_true,bs7]
   refine z1r (k:=10) (z3h hl (by decide) (by decide)) hB rfl (Nat.zero_le _) ?_
   rintro v i ⟨r,rfl,hr1',hr2'⟩ hi
   have hr:r=0∨r=1∨r=2∨r=3∨r=4∨r=5∨r=6∨r=7∨r=8∨r=9:=by omega
   rcases hr with rfl | rfl | rfl | rfl | rfl | rfl | rfl | rfl | rfl | rfl
   ·simp only[go_sem,hB,decide_true,Int.reduceEq]
    refine z1r (k:=10) (z3h hl (by decide) (by decide)) hB rfl hi ?_
    rintro v i2 ⟨r,rfl,_,_⟩ hi2
    simp only[go_sem,hB,z0n,z0m,z0g]
    exact fin {z2s s with kind:=r} ⟨hu,hd,rfl⟩ _ _ _ _
   ·simp only[go_sem,hB,decide_true,decide_false,Int.reduceEq]
    refine z1r (k:=10) (z3h hl (by decide) (by decide)) hB rfl hi ?_
    rintro v i2 ⟨r,rfl,h1,h2⟩ hi2
    obtain⟨n,rfl⟩:∃ k:Nat,r=k:=⟨r.toNat,by omega⟩
    simp only[go_sem,hB,x8e (n:=n) (by omega),z0n,z0m,z0g]
    exact fin {z2s s with pred:=q7d[n]'(by show n < 7;omega)} ⟨hu,hd,rfl⟩ _ _ _ _
   ·simp only[go_sem,hB,decide_true,decide_false,Int.reduceEq]
    refine z1r (k:=10) (z3h hl (by decide) (by decide)) hB rfl hi ?_
    rintro v i2 ⟨r,rfl,h1,h2⟩ hi2
    obtain⟨n,rfl⟩:∃ k:Nat,r=k:=⟨r.toNat,by omega⟩
    simp only[go_sem,hB,x8e (n:=n) (by omega),z0n,z0m,z0g]
    exact fin {z2s s with into:=q7d[n]'(by show n < 7;omega)} ⟨hu,hd,rfl⟩ _ _ _ _
   ·simp only[go_sem,hB,decide_true,decide_false,Int.reduceEq]
    refine z1r (k:=10) (z3h hl (by decide) (by decide)) hB rfl hi ?_
    rintro v i2 ⟨r,rfl,h1,h2⟩ hi2
    simp only[go_sem,hB,z0d (n:=r - 1) (by omega) (by omega)]
    refine z1r (k:=10) (z3h hl (by decide) (by decide)) hB rfl hi2 ?_
    rintro v i3 ⟨r',rfl,h3,h4⟩ hi3
    simp only[go_sem,hB,z0d (n:=r' - 1) (by omega) (by omega),z0n,z0m,z0g]
    exact fin {z2s s with clause:=r - 1,atom:=r' - 1} ⟨hu,hd,rfl⟩ _ _ _ _
   ·simp only[go_sem,hB,decide_true,decide_false,Int.reduceEq,z1i]
    refine z1r (k:=10) (z3h hl (by decide) (by decide)) hB rfl hi ?_
    rintro v i2 ⟨r,rfl,h1,h2⟩ hi2
    obtain⟨n,rfl⟩:∃ k:Nat,r=k:=⟨r.toNat,by omega⟩
    have hix:=fun h=>x8e (n:=n) (by omega) (h:=h) (k:= .i64)
    generalize q7d[n]'(by show n < 7;omega)=nm at hix
    obtain⟨R',hap⟩:=y8w (l:=(z2s s).un) (m:=[nm]) hB hr1 (by simp;omega)
    simp only[go_sem,hB,hix]
    rw[show [AV.str nm]=z1t [nm] from rfl,hap]
    simp only[go_sem,hB,z0n,z0m,z0g]
    refine⟨by simp[z1f,apart,z0i,z1d,z1h,AOp.isCall,hB,AV.ids,idsL,z2d], ?_⟩
    exact fin {z2s s with un:=(z2s s).un++[nm]} ⟨by simp;omega,hd,rfl⟩ _ _ _ _
   ·simp only[go_sem,hB,decide_true,decide_false,Int.reduceEq,z1i]
    refine z1r (k:=10) (z3h hl (by decide) (by decide)) hB rfl hi ?_
    rintro v i2 ⟨r,rfl,h1,h2⟩ hi2
    obtain⟨n,rfl⟩:∃ k:Nat,r=k:=⟨r.toNat,by omega⟩
    have hix:=fun h=>x8e (n:=n) (by omega) (h:=h) (k:= .i64)
    generalize q7d[n]'(by show n < 7;omega)=nm at hix
    obtain⟨R',hap⟩:=y8x (l:=(z2s s).und) (m:=[nm]) hB hr2 (by simp;omega)
    simp only[go_sem,hB,hix]
    rw[show [AV.str nm]=z1t [nm] from rfl,hap]
    simp only[go_sem,hB,z0n,z0m,z0g]
    refine⟨by simp[z1f,apart,z0i,z1d,z1h,AOp.isCall,hB,AV.ids,idsL,z2d], ?_⟩
    exact fin {z2s s with und:=(z2s s).und++[nm]} ⟨hu,by simp;omega,rfl⟩ _ _ _ _
   ·simp only[go_sem,hB,decide_true,decide_false,Int.reduceEq,z1i]
    refine z1r (k:=10) (z3h hl (by decide) (by decide)) hB rfl hi ?_
    rintro v i2 ⟨r,rfl,h1,h2⟩ hi2
    obtain⟨n,rfl⟩:∃ k:Nat,r=k:=⟨r.toNat,by omega⟩
    have hix:=fun h=>x8e (n:=n) (by omega) (h:=h) (k:= .i64)
    generalize q7d[n]'(by show n < 7;omega)=nm at hix
    simp only[go_sem,hB,hix]
    refine z1r (k:=10) (z3h hl (by decide) (by decide)) hB rfl hi2 ?_
    rintro v i3 ⟨r3,rfl,_,_⟩ hi3
    simp only[go_sem,hB]
    refine z1r (k:=10) (z3h hl (by decide) (by decide)) hB rfl hi3 ?_
    rintro v i4 ⟨r4,rfl,_,_⟩ hi4
    simp only[go_sem,hB]
    refine z1r (k:=10) (z3h hl (by decide) (by decide)) hB rfl hi4 ?_
    rintro v i5 ⟨r5,rfl,h5,h6⟩ hi5
    obtain⟨m,rfl⟩:∃ k:Nat,r5=k:=⟨r5.toNat,by omega⟩
    have hw:IntKind.i64.wrap (1 + (m:Int))=((1 + m:Nat):Int):=by rw[z0d (by omega) (by omega)];omega
    simp only[go_sem,hB,hw]
    refine z1r (k:=10) (k6b (s:=1 + m) hl (by omega) (by omega)) hB rfl hi5 ?_
    rintro v i6 hv hi6
    obtain⟨a,b,c',d,e,rfl,⟨qa1,qa2,qa3,qa4⟩,⟨qb1,qb2,qb3,qb4⟩,⟨qc1,qc2,qc3,qc4⟩,⟨qd1,qd2,qd3,qd4⟩,⟨qe1,qe2,qe3,qe4⟩⟩:=hv.five
    generalize hx:AV.agg [.str nm, .int .i64 r3, .bool (decide (r4=0)),a,b,c',d,e]=w
    have hcells:z0t 8 [w]=true:=by
     subst hx
     simp[z0t,AV.def?,AV.cells,j9n,x3y,x3z,qa3,qb3,qc3,qd3,qe3]
    have hbs:∀ h,bsV h (.agg [.str [], .int .i64 0, .bool false, .int .i64 0, .bool false, .str [], .sl [] .nil, .sl [] .nil]) 1 [0] [w]=some (.sl [w] .full,h):=fun h=>by
     have hwc:w.cv=w:=by subst hx;simp[AV.cv,cvL,qa1,qb1,qc1,qd1,qe1]
     have:=y1v (h:=h) (z:= .agg [.str [], .int .i64 0, .bool false, .int .i64 0, .bool false, .str [], .sl [] .nil, .sl [] .nil]) (v:=w) rfl (by subst hx;simp[AV.obs,z4k,qa2,qb2,qc2,qd2,qe2]) (by rw[hwc];subst hx;rfl) (by rw[hwc];subst hx;rfl)
     rwa [hwc] at this
    have hwo:w.obs=[]:=by subst hx;simp[AV.obs,z4k,qa2,qb2,qc2,qd2,qe2]
    have hwi:w.ids=[]:=by subst hx;simp[AV.ids,idsL,qa4,qb4,qc4,qd4,qe4]
    simp only[go_sem,hB,hx,hbs]
    rw[append_nil (k:=9) hB rfl hcells (by simp)]
    simp only[go_sem,hB,z0n,z0m,z0g]
    refine⟨by simp[z1f,apart,z0i,z1d,z1h,AOp.isCall,hB,AV.ids,idsL,z2d,hwi,hwo], ?_⟩
    exact fin {z2s s with drops:=[w]} ⟨hu,hd,by simp[idsL,hwi]⟩ _ _ _ _
   ·simp only[go_sem,hB,decide_true,decide_false,Int.reduceEq,List.length_nil,Int.reduceLT,z0n,z0m,z0g]
    exact fin (z2s s) hft _ _ _ _
   ·by_cases hk:0 < (z2s s).un.length
    ·have hb:decide (0 < ((z2s s).un.length:Int))=true:=by rw[decide_eq_true_iff];omega
     have hsl:(z1t (z2s s).un).length=(z2s s).un.length:=List.length_map _
     simp only[go_sem,hB,decide_true,decide_false,Int.reduceEq,hsl,hb,z1i]
     refine z1r (k:=10) (z3h hl (n:=((z2s s).un.length:Int)) (by omega) (by omega)) hB rfl hi ?_
     rintro v i2 ⟨r,rfl,h1,h2⟩ hi2
     obtain⟨n,rfl⟩:∃ k:Nat,r=k:=⟨r.toNat,by omega⟩
     have hcut:=fun h=>x5f (h:=h) (n:=n) (xs:=z1t (z2s s).un) (t:=t1) (k:= .i64) (by omega) x8f
     rw[show (z1t (z2s s).un).drop n=z1t ((z2s s).un.drop n) from List.map_drop.symm] at hcut
     simp only[go_sem,hB,hcut,Option.map_none,z0n,z0m,z0g]
     refine⟨by simp[z1f,apart,z0i,z1d,z1h,AOp.isCall,hB,AV.ids,idsL,z2d], ?_⟩
     exact fin {z2s s with un:=(z2s s).un.drop n} ⟨by simp;omega,hd,rfl⟩ _ _ _ _
    ·have hb:decide (0 < ((z2s s).un.length:Int))=false:=by rw[decide_eq_false_iff_not];omega
     have hsl:(z1t (z2s s).un).length=(z2s s).un.length:=List.length_map _
     simp only[go_sem,hB,decide_true,decide_false,Int.reduceEq,hsl,hb,z0n,z0m,z0g]
     exact fin (z2s s) hft _ _ _ _
   ·have hsl:(z1t (z2s s).und).length=(z2s s).und.length:=List.length_map _
    by_cases hk:0 < (z2s s).und.length
    ·have hb:decide (0 < ((z2s s).und.length:Int))=true:=by rw[decide_eq_true_iff];omega
     have hcut:∀ h,slV h (some 1) (.sl (z1t (z2s s).und) t2) (some (.int .i64 1)) none none=some (.sl (z1t ((z2s s).und.drop 1)) (if t2= .nil then .nil else t2),h):=fun h=>by
      have:=x5f (h:=h) (n:=1) (xs:=z1t (z2s s).und) (t:=t2) (k:= .i64) (by omega) x8f
      rw[show (z1t (z2s s).und).drop 1=z1t ((z2s s).und.drop 1) from List.map_drop.symm] at this
      exact this
     simp only[go_sem,hB,decide_true,decide_false,Int.reduceEq,hsl,hb,hcut,Option.map_none,z0n,z0m,z0g]
     exact fin {z2s s with und:=(z2s s).und.drop 1} ⟨hu,by simp;omega,rfl⟩ _ _ _ _
    ·have hb:decide (0 < ((z2s s).und.length:Int))=false:=by rw[decide_eq_false_iff_not];omega
     simp only[go_sem,hB,decide_true,decide_false,Int.reduceEq,hsl,hb,z0n,z0m,z0g]
     exact fin (z2s s) hft _ _ _ _
theorem v9m:Pure Gam 17 [] (.bool true):=Pure.tab (tab:=[([], .bool true)]) rfl rfl rfl
theorem y0l {s:Sys} {x:Tf} (hs:SysV s) (hx:TfS x):Pure Gam 25 [z0x s,eTf x] (.tup [z0x (z2i s x).1, .int .i64 (z2i s x).2]):=by
 have hp:=k2z hs hx
 rw[z0x,eTf,z0x] at hp
 refine Pure.of rfl u4h rfl rfl rfl (az:=[z0x s,eTf x]) rfl (by simp[idsL,z2c,z6y hx.ok]) fun D B clk T hB hT=> ?_
 simp only[go_sem,y9u,hB,z0x,eTf,z0a hp,z0n,z0m,z0g]
 rw[z0h rfl (by simp[z1k,AV.cv,cvL,AV.ids,idsL,z0c z2j,z0c z1z])]
 exact hT _
theorem u6b {zs:List Int} {u:Tip} {h:List AObj} {clk:Nat} {Q:AV→List AObj→Nat→Prop} (hz:∀ z∈zs, -9223372036854775808≤z∧z≤9223372036854775807) (hQ:∀ s,SysOk s→Q (z0x s) h clk):WC Gam 24 [.sl (z9y zs) u] h clk Q:=by
 refine q5x rfl u4e rfl rfl rfl (az:=[.sl (z9y zs) .no]) rfl (by simp[idsL,AV.ids,z8d]) fun D B T hB hT=> ?_
 simp only[go_sem,y9r,hB]
 refine z6f (u5k hz (v1d ⟨by rw[List.length_take];omega,fun z hz'=>hz z (List.mem_of_mem_take hz')⟩) fun s hs=> ?_)
 simp only[go_sem,hB,z0x,z0n,z0m,z0g]
 rw[z2x rfl (by simp[AV.cv,cvL,AV.ids,idsL,z0c z2j,z0c z1z])]
 exact hT _ _ (hQ s hs)
theorem x8h {s:Sys} {x:Tf}:(z2i s x).1=x0n∨(z2i s x).1=z7v x s:=by
 cases hu:q2l x with
 | false=>rw[z7k hu];exact .inl rfl
 | true=>
   by_cases hn:q6i s x
   ·cases hk:z6m x.un x.und s.clauses 0 [] with
    | none=>rw[z7l hu hn hk];exact .inl rfl
    | some out=>rw[z7m hu hn hk];exact .inr rfl
   ·rw[z6s hu hn];exact .inl rfl
section
open Sh
def v9n:ACode:=(.seq (.region 1 [N 14 (.binOp .lss (.one .int) (.tmp 13) (.tmp 12))] []) (.seq (.cond (.tmp 14) .skip (.exit 0)) (.seq (.block 1 (.seq (.region 2 [M 15 13,M 5 15] []) (.seq (.region 9 [M 16 0,M 17 5,N 18 (.indexAddr none 1 (.tmp 16) (.tmp 17)),L 19 18,M 20 1,M 21 5,N 22 (.indexAddr none 1 (.tmp 20) (.tmp 21)),L 23 22,N 24 (.binOp .neq (.one .int) (.tmp 19) (.tmp 23))] []) (.cond (.tmp 24) (.seq (.region 1 [N 4 (.move (.const (.bool false)))] []) .ret) .skip)))) (.region 2 [N 25 (.binOp .add (.one .int) (.tmp 13) (I 1)),M 13 25] []))))
def u2q:AFun:=
 {ntmps:=26,nslots:=0,results:=[.tmp 4],byref:=[],owned:=false,
  body:=(.seq (.region 1 [N 4 (.move (.const (.bool false)))] []) (.seq (.seq (.region 5 [M 6 0,N 7 (.len .sl (.tmp 6)),M 8 1,N 9 (.len .sl (.tmp 8)),N 10 (.binOp .neq (.one .int) (.tmp 7) (.tmp 9))] []) (.cond (.tmp 10) (.seq (.region 1 [N 4 (.move (.const (.bool false)))] []) .ret) .skip)) (.seq (.seq (.region 3 [M 11 0,N 12 (.len .sl (.tmp 11)),N 13 (.move (I 0))] []) (.block 0 (.loop v9n))) (.seq (.region 1 [N 4 (.move (.const (.bool true)))] []) .ret))))}
theorem u6c:Gam.fn 120=some u2q:=by kernel_rfl
def j1c:ACode:=(.seq (.seq (.region 4 [M 43 14,M 44 13,N 45 (.len .sl (.tmp 44)),N 46 (.binOp .lss (.one .int) (.tmp 43) (.tmp 45))] []) (.cond (.tmp 46) .skip (.exit 0))) (.seq (.block 1 (.seq (.region 13 [N 50 (.load (some 2) (.tmp 9)),N 51 (.load (some 8) (.tmp 10)),M 52 13,M 53 14,N 54 (.indexAddr none 1 (.tmp 52) (.tmp 53)),N 55 (.load (some 1) (.tmp 54)),N 56 (.call 19 [(.tmp 50),(.tmp 51),(.tmp 55)]),M 49 56,E 57 49 0,E 58 49 1,N 15 (.alloc 4 (.agg [(.sl [] .nil)])),S 1 15 57,M 16 58] [(0,10),(1,10),(4,10),(5,10),(6,10)]) (.seq (.region 13 [N 60 (.load (some 2) (.tmp 9)),N 61 (.load (some 8) (.tmp 10)),M 62 13,M 63 14,N 64 (.indexAddr none 1 (.tmp 62) (.tmp 63)),N 65 (.load (some 1) (.tmp 64)),N 66 (.call 26 [(.tmp 60),(.tmp 61),(.tmp 65)]),M 59 66,E 67 59 0,E 68 59 1,N 17 (.alloc 5 (.agg [(.sl [] .nil)])),S 1 17 67,M 18 68] [(0,10),(1,10),(4,10),(5,10),(6,10)]) (.seq (.region 13 [N 70 (.load (some 2) (.tmp 9)),N 71 (.load (some 8) (.tmp 10)),M 72 13,M 73 14,N 74 (.indexAddr none 1 (.tmp 72) (.tmp 73)),N 75 (.load (some 1) (.tmp 74)),N 76 (.call 27 [(.tmp 70),(.tmp 71),(.tmp 75)]),M 69 76,E 77 69 0,E 78 69 1,N 19 (.alloc 6 (.agg [(.sl [] .nil)])),S 1 19 77,M 20 78] [(0,10),(1,10),(4,10),(5,10),(6,10)]) (.seq (.region 13 [N 80 (.load (some 2) (.tmp 9)),N 81 (.load (some 8) (.tmp 10)),M 82 13,M 83 14,N 84 (.indexAddr none 1 (.tmp 82) (.tmp 83)),N 85 (.load (some 1) (.tmp 84)),N 86 (.call 28 [(.tmp 80),(.tmp 81),(.tmp 85)]),M 79 86,E 87 79 0,E 88 79 1,N 21 (.alloc 7 (.agg [(.sl [] .nil)])),S 1 21 87,M 22 88] [(0,10),(1,10),(4,10),(5,10),(6,10)]) (.seq (.region 20 [M 89 16,M 90 18,N 91 (.binOp .neq (.one .int) (.tmp 89) (.tmp 90)),M 92 91,U 93 (.load (some 1) (.tmp 15)) 92,U 94 (.load (some 1) (.tmp 17)) 92,U 95 (.call 29 [(.tmp 93),(.tmp 94)]) 92,U 96 (.unOp .not (.tmp 95)) 92,N 97 (.pick (.tmp 92) (.const (.bool true)) (.tmp 96)),M 98 97,U 99 (.move (.tmp 20)) 98,U 100 (.move (.tmp 22)) 98,U 101 (.binOp .neq (.one .int) (.tmp 99) (.tmp 100)) 98,N 102 (.pick (.tmp 98) (.const (.bool true)) (.tmp 101)),M 103 102,U 104 (.load (some 1) (.tmp 19)) 103,U 105 (.load (some 1) (.tmp 21)) 103,U 106 (.call 29 [(.tmp 104),(.tmp 105)]) 103,U 107 (.unOp .not (.tmp 106)) 103,N 108 (.pick (.tmp 103) (.const (.bool true)) (.tmp 107))] []) (.cond (.tmp 108) (.seq (.region 1 [N 8 (.move (.const (.bool false)))] []) .ret) .skip))))))) (.region 3 [M 47 14,N 48 (.binOp .add (.one .int) (.tmp 47) (I 1)),M 14 48] [])))
def v1m:AFun:=
 {ntmps:=110,nslots:=8,results:=[.tmp 8],byref:=[],owned:=false,
  body:=(.seq (.region 1 [N 8 (.move (.const (.bool false)))] []) (.seq (.region 4 [M 23 0,N 24 (.call 24 [.tmp 23]),N 9 (.alloc 0 (.agg [(.sl [] .nil),(.sl [] .nil)])),S 2 9 24] []) (.seq (.region 6 [N 25 (.load (some 2) (.tmp 9)),M 26 1,M 27 3,N 28 (.call 15 [(.tmp 25),(.tmp 26),(.tmp 27)]),N 10 (.alloc 1 (.agg [(.int .i64 0),(.str []),(.str []),(.int .i64 0),(.int .i64 0),(.sl [] .nil),(.sl [] .nil),(.sl [] .nil)])),S 8 10 28] []) (.seq (.region 9 [N 30 (.load (some 2) (.tmp 9)),N 31 (.load (some 8) (.tmp 10)),N 32 (.call 25 [(.tmp 30),(.tmp 31)]),M 29 32,E 33 29 0,E 34 29 1,N 11 (.alloc 2 (.agg [(.sl [] .nil),(.sl [] .nil)])),S 2 11 33,M 12 34] []) (.seq (.region 9 [N 35 (.load (some 2) (.tmp 9)),M 36 2,N 37 (.call 18 [(.tmp 35),(.tmp 36)]),N 38 (.load (some 2) (.tmp 11)),M 39 2,N 40 (.call 18 [(.tmp 38),(.tmp 39)]),N 41 (.build [(.sl [] .nil)] []),N 42 (.buildSlice 3 false (.agg [(.sl [] .nil)]) 3 [(0,(.tmp 37)),(1,(.tmp 40)),(2,(.tmp 41))]),M 13 42] [(2,3)]) (.seq (.seq (.region 1 [N 14 (.move (I 0))] []) (.block 0 (.loop j1c))) (.seq (.region 2 [N 109 (.call 17 []),M 8 109] []) .ret)))))))}
theorem y0m:Gam.fn 5=some v1m:=by kernel_rfl
def x5g:ACode:=(.seq (.seq (.region 9 [M 26 9,A 27 2 0,L 28 27,M 29 7,N 30 (.indexAddr none 3 (.tmp 28) (.tmp 29)),A 31 30 1,L 32 31,N 33 (.len .sl (.tmp 32)),N 34 (.binOp .lss (.one .int) (.tmp 26) (.tmp 33))] []) (.cond (.tmp 34) .skip (.exit 2))) (.seq (.block 3 (.region 25 [A 37 8 1,L 38 37,N 39 (.buildSlice 4 false (.str []) 12 [(0,(.const (.str [117]))),(1,(.const (.str [118]))),(2,(.const (.str [121,48]))),(3,(.const (.str [121,49]))),(4,(.const (.str [107]))),(5,(.const (.str [109]))),(6,(.const (.str [110]))),(7,(.const (.str [111]))),(8,(.const (.str [114]))),(9,(.const (.str [115]))),(10,(.const (.str [116]))),(11,(.const (.str [104])))]),M 40 9,N 41 (.binOp .rem (.one .int) (.tmp 40) (I 12)),N 42 (.indexAddr none 1 (.tmp 39) (.tmp 41)),L 43 42,M 44 9,N 45 (.binOp .quo (.one .int) (.tmp 44) (I 12)),N 46 (.call 52 [.tmp 45]),N 47 (.binOp .add (.one .str) (.tmp 43) (.tmp 46)),A 48 2 0,L 49 48,M 50 7,N 51 (.indexAddr none 3 (.tmp 49) (.tmp 50)),A 52 51 1,L 53 52,M 54 9,N 55 (.indexAddr none 1 (.tmp 53) (.tmp 54)),L 56 55,N 57 (.build [(.str []),(.int .i64 0)] [(0,1,(.tmp 47)),(1,1,(.tmp 56))]),N 58 (.buildSlice 5 false (.agg [(.str []),(.int .i64 0)]) 1 [(0,(.tmp 57))]),N 59 (.append 6 2 24 false (.tmp 38) (.tmp 58)),A 60 8 1,S 1 60 59] [(1,2),(1,9),(2,9),(5,9),(6,9),(2,12),(9,12),(2,14),(9,14),(2,16),(9,16),(2,18),(9,18),(2,19),(9,19),(1,21)])) (.region 3 [M 35 9,N 36 (.binOp .add (.one .int) (.tmp 35) (I 1)),M 9 36] [])))
def j1d:ACode:=(.seq (.seq (.region 5 [M 12 7,A 13 2 0,L 14 13,N 15 (.len .sl (.tmp 14)),N 16 (.binOp .lss (.one .int) (.tmp 12) (.tmp 15))] []) (.cond (.tmp 16) .skip (.exit 0))) (.seq (.block 1 (.seq (.region 9 [A 19 2 0,L 20 19,M 21 7,N 22 (.indexAddr none 3 (.tmp 20) (.tmp 21)),A 23 22 0,L 24 23,N 25 (.build [(.str []),(.sl [] .nil),(.sl [] .nil)] [(0,1,(.tmp 24))]),N 8 (.alloc 3 (.agg [(.str []),(.sl [] .nil),(.sl [] .nil)])),S 3 8 25] []) (.seq (.seq (.region 1 [N 9 (.move (I 0))] []) (.block 2 (.loop x5g))) (.seq (.region 6 [M 61 5,A 62 8 1,L 63 62,N 64 (.call 53 [(.tmp 61),(I 2),(.tmp 63)]),A 65 8 2,S 1 65 64] []) (.seq (.seq (.region 3 [M 66 5,N 67 (.call 35 [(.tmp 66),(I 4)]),N 68 (.binOp .eql (.one .int) (.tmp 67) (I 0))] []) (.cond (.tmp 68) (.region 6 [M 69 5,N 70 (.call 35 [(.tmp 69),(I 3)]),N 71 (.binOp .gtr (.one .int) (.tmp 70) (I 0)),N 72 (.call 54 [.tmp 71]),A 73 8 2,S 1 73 72] []) .skip)) (.region 7 [A 74 6 0,L 75 74,N 76 (.load (some 3) (.tmp 8)),N 77 (.buildSlice 7 false (.agg [(.str []),(.sl [] .nil),(.sl [] .nil)]) 1 [(0,(.tmp 76))]),N 78 (.append 8 3 64 false (.tmp 75) (.tmp 77)),A 79 6 0,S 1 79 78] [])))))) (.region 3 [M 17 7,N 18 (.binOp .add (.one .int) (.tmp 17) (I 1)),M 7 18] [])))
def v1n:AFun:=
 {ntmps:=81,nslots:=9,results:=[.cell 4 (some 1)],byref:=[],owned:=false,
  body:=(.seq (.region 2 [N 2 (.box 0 (.tmp 0)),N 4 (.alloc 1 (.agg [(.sl [] .nil)]))] []) (.seq (.region 3 [M 10 1,N 11 (.call 20 [.tmp 10]),M 5 11] []) (.seq (.region 1 [N 6 (.alloc 2 (.agg [(.sl [] .nil)]))] []) (.seq (.seq (.region 1 [N 7 (.move (I 0))] []) (.block 0 (.loop j1d))) (.seq (.region 2 [N 80 (.load (some 1) (.tmp 6)),S 1 4 80] []) .ret)))))}
theorem v1o:Gam.fn 18=some v1n:=by kernel_rfl
def x0p:ACode:=(.seq (.region 1 [N 38 (.binOp .lss (.one .int) (.tmp 37) (.tmp 36))] []) (.seq (.cond (.tmp 38) .skip (.exit 1)) (.seq (.block 2 (.seq (.region 4 [N 39 (.indexAddr none 3 (.tmp 35) (.tmp 37)),N 40 (.load (some 3) (.tmp 39)),N 13 (.alloc 6 (.agg [(.str []),(.sl [] .nil),(.int .i64 0)])),S 3 13 40] []) (.seq (.seq (.region 4 [N 41 (.load (some 8) (.tmp 4)),A 42 13 0,L 43 42,N 44 (.call 50 [(.tmp 41),(.tmp 43)])] []) (.cond (.tmp 44) (.seq (.region 13 [A 45 10 0,L 46 45,N 47 (.load (some 3) (.tmp 13)),A 48 4 5,L 49 48,A 50 13 0,L 51 50,N 52 (.call 58 [(.tmp 49),(.tmp 51)]),N 53 (.call 57 [(.tmp 47),(.tmp 52)]),N 54 (.buildSlice 7 false (.agg [(.str []),(.sl [] .nil),(.sl [] .nil)]) 1 [(0,(.tmp 53))]),N 55 (.append 8 3 64 false (.tmp 46) (.tmp 54)),A 56 10 0,S 1 56 55] [(1,7),(2,7),(1,8),(1,9)]) (.exit 2)) .skip)) (.seq (.region 9 [A 57 10 0,L 58 57,M 59 11,N 60 (.indexAddr none 3 (.tmp 59) (I 0)),N 61 (.load (some 3) (.tmp 60)),N 62 (.buildSlice 9 false (.agg [(.str []),(.sl [] .nil),(.sl [] .nil)]) 1 [(0,(.tmp 61))]),N 63 (.append 10 3 64 false (.tmp 58) (.tmp 62)),A 64 10 0,S 1 64 63] [(1,5)]) (.region 3 [M 65 11,N 66 (.slice (some 3) (.tmp 65) (some (I 1)) none none),M 11 66] []))))) (.region 2 [N 67 (.binOp .add (.one .int) (.tmp 37) (I 1)),M 37 67] []))))
def j4e:AFun:=
 {ntmps:=69,nslots:=11,results:=[.cell 6 (some 1), .tmp 7],byref:=[],owned:=false,
  body:=(.seq (.region 5 [N 3 (.box 0 (.tmp 0)),N 4 (.box 1 (.tmp 1)),N 5 (.box 2 (.tmp 2)),N 6 (.alloc 3 (.agg [(.sl [] .nil)])),N 7 (.move (I 0))] []) (.seq (.region 9 [N 15 (.load (some 2) (.tmp 3)),N 16 (.load (some 8) (.tmp 4)),N 17 (.call 16 [(.tmp 15),(.tmp 16)]),M 14 17,E 18 14 0,E 19 14 1,N 8 (.alloc 4 (.agg [(.sl [] .nil),(.sl [] .nil)])),S 2 8 18,M 9 19] []) (.seq (.block 0 (.seq (.region 3 [M 21 9,N 22 (.binOp .neq (.one .int) (.tmp 21) (I 0)),M 20 22] []) (.cond (.tmp 20) (.seq (.region 4 [N 23 (.build [(.sl [] .nil)] []),M 24 9,S 1 6 23,M 7 24] []) .ret) (.seq (.region 5 [N 26 (.load (some 2) (.tmp 8)),N 27 (.load (some 1) (.tmp 5)),N 28 (.call 55 [(.tmp 26),(.tmp 27)]),N 29 (.unOp .not (.tmp 28)),M 25 29] []) (.cond (.tmp 25) (.seq (.region 3 [N 30 (.build [(.sl [] .nil)] []),S 1 6 30,N 7 (.move (I 1))] []) .ret) .skip))))) (.seq (.region 1 [N 10 (.alloc 5 (.agg [(.sl [] .nil)]))] []) (.seq (.region 4 [N 31 (.load (some 1) (.tmp 5)),N 32 (.call 56 [.tmp 31]),N 33 (.field (.tmp 32) 0 none),M 11 33] []) (.seq (.seq (.region 4 [A 34 3 0,L 35 34,N 36 (.len .sl (.tmp 35)),N 37 (.move (I 0))] []) (.block 1 (.loop x0p))) (.seq (.region 3 [N 68 (.load (some 1) (.tmp 10)),S 1 6 68,N 7 (.move (I 0))] []) .ret)))))))}
theorem y0n:Gam.fn 19=some j4e:=by kernel_rfl
def x0q:ACode:=(.seq (.seq (.region 5 [M 30 12,A 31 3 0,L 32 31,N 33 (.len .sl (.tmp 32)),N 34 (.binOp .lss (.one .int) (.tmp 30) (.tmp 33))] []) (.cond (.tmp 34) .skip (.exit 0))) (.seq (.block 1 (.seq (.region 9 [N 37 (.load (some 2) (.tmp 8)),A 38 3 0,L 39 38,M 40 12,N 41 (.indexAddr none 3 (.tmp 39) (.tmp 40)),A 42 41 0,L 43 42,N 44 (.call 71 [(.tmp 37),(.tmp 43)]),M 13 44] []) (.seq (.region 2 [M 45 13,N 46 (.binOp .geq (.one .int) (.tmp 45) (I 0))] []) (.cond (.tmp 46) (.region 11 [A 47 11 0,L 48 47,A 49 5 0,L 50 49,M 51 13,N 52 (.indexAddr none 3 (.tmp 50) (.tmp 51)),N 53 (.load (some 3) (.tmp 52)),N 54 (.buildSlice 6 false (.agg [(.str []),(.sl [] .nil),(.sl [] .nil)]) 1 [(0,(.tmp 53))]),N 55 (.append 7 3 64 false (.tmp 48) (.tmp 54)),A 56 11 0,S 1 56 55] [(1,7)]) (.region 21 [A 57 11 0,L 58 57,A 59 3 0,L 60 59,M 61 12,N 62 (.indexAddr none 3 (.tmp 60) (.tmp 61)),N 63 (.load (some 3) (.tmp 62)),A 64 4 5,L 65 64,A 66 3 0,L 67 66,M 68 12,N 69 (.indexAddr none 3 (.tmp 67) (.tmp 68)),A 70 69 0,L 71 70,N 72 (.call 73 [(.tmp 65),(.tmp 71)]),N 73 (.call 72 [(.tmp 63),(.tmp 72)]),N 74 (.buildSlice 8 false (.agg [(.str []),(.sl [] .nil),(.sl [] .nil)]) 1 [(0,(.tmp 73))]),N 75 (.append 9 3 64 false (.tmp 58) (.tmp 74)),A 76 11 0,S 1 76 75] [(1,15),(3,15),(5,15),(6,15),(1,16),(1,17)]))))) (.region 3 [M 35 12,N 36 (.binOp .add (.one .int) (.tmp 35) (I 1)),M 12 36] [])))
def j4f:AFun:=
 {ntmps:=79,nslots:=10,results:=[.cell 6 (some 1), .tmp 7],byref:=[],owned:=false,
  body:=(.seq (.region 5 [N 3 (.box 0 (.tmp 0)),N 4 (.box 1 (.tmp 1)),N 5 (.box 2 (.tmp 2)),N 6 (.alloc 3 (.agg [(.sl [] .nil)])),N 7 (.move (I 0))] []) (.seq (.region 11 [N 15 (.load (some 2) (.tmp 3)),N 16 (.load (some 8) (.tmp 4)),N 17 (.call 70 [(.tmp 15),(.tmp 16)]),M 14 17,E 18 14 0,E 19 14 1,E 20 14 2,N 8 (.alloc 4 (.agg [(.sl [] .nil),(.sl [] .nil)])),S 2 8 18,M 9 19,M 10 20] []) (.seq (.seq (.region 2 [M 21 10,N 22 (.binOp .neq (.one .int) (.tmp 21) (I 0))] []) (.cond (.tmp 22) (.seq (.region 4 [N 23 (.build [(.sl [] .nil)] []),M 24 10,S 1 6 23,M 7 24] []) .ret) .skip)) (.seq (.seq (.region 4 [N 25 (.load (some 2) (.tmp 8)),N 26 (.load (some 1) (.tmp 5)),N 27 (.call 61 [(.tmp 25),(.tmp 26)]),N 28 (.unOp .not (.tmp 27))] []) (.cond (.tmp 28) (.seq (.region 3 [N 29 (.build [(.sl [] .nil)] []),S 1 6 29,N 7 (.move (I 1))] []) .ret) .skip)) (.seq (.region 1 [N 11 (.alloc 5 (.agg [(.sl [] .nil)]))] []) (.seq (.seq (.region 1 [N 12 (.move (I 0))] []) (.block 0 (.loop x0q))) (.seq (.region 4 [N 77 (.load (some 1) (.tmp 11)),N 78 (.call 74 [.tmp 77]),S 1 6 78,N 7 (.move (I 0))] []) .ret)))))))}
theorem y0o:Gam.fn 26=some j4f:=by kernel_rfl
def x5h:ACode:=(.seq (.region 1 [N 34 (.binOp .lss (.one .int) (.tmp 33) (.tmp 32))] []) (.seq (.cond (.tmp 34) .skip (.exit 1)) (.seq (.block 2 (.seq (.region 4 [N 35 (.indexAddr none 3 (.tmp 31) (.tmp 33)),N 36 (.load (some 3) (.tmp 35)),N 12 (.alloc 6 (.agg [(.str []),(.sl [] .nil),(.sl [] .nil)])),S 3 12 36] []) (.seq (.region 5 [N 37 (.load (some 8) (.tmp 4)),A 38 12 0,L 39 38,N 40 (.call 50 [(.tmp 37),(.tmp 39)]),N 41 (.unOp .not (.tmp 40))] []) (.cond (.tmp 41) (.region 8 [A 42 10 0,L 43 42,N 44 (.load (some 3) (.tmp 12)),N 45 (.call 75 [.tmp 44]),N 46 (.buildSlice 7 false (.agg [(.str []),(.sl [] .nil),(.sl [] .nil)]) 1 [(0,(.tmp 45))]),N 47 (.append 8 3 64 false (.tmp 43) (.tmp 46)),A 48 10 0,S 1 48 47] [(1,3),(1,4)]) .skip)))) (.region 2 [N 49 (.binOp .add (.one .int) (.tmp 33) (I 1)),M 33 49] []))))
def j4g:AFun:=
 {ntmps:=51,nslots:=9,results:=[.cell 6 (some 1), .tmp 7],byref:=[],owned:=false,
  body:=(.seq (.region 5 [N 3 (.box 0 (.tmp 0)),N 4 (.box 1 (.tmp 1)),N 5 (.box 2 (.tmp 2)),N 6 (.alloc 3 (.agg [(.sl [] .nil)])),N 7 (.move (I 0))] []) (.seq (.region 9 [N 14 (.load (some 2) (.tmp 3)),N 15 (.load (some 8) (.tmp 4)),N 16 (.call 16 [(.tmp 14),(.tmp 15)]),M 13 16,E 17 13 0,E 18 13 1,N 8 (.alloc 4 (.agg [(.sl [] .nil),(.sl [] .nil)])),S 2 8 17,M 9 18] []) (.seq (.block 0 (.seq (.region 3 [M 20 9,N 21 (.binOp .neq (.one .int) (.tmp 20) (I 0)),M 19 21] []) (.cond (.tmp 19) (.seq (.region 4 [N 22 (.build [(.sl [] .nil)] []),M 23 9,S 1 6 22,M 7 23] []) .ret) (.seq (.region 5 [N 25 (.load (some 2) (.tmp 3)),N 26 (.load (some 1) (.tmp 5)),N 27 (.call 55 [(.tmp 25),(.tmp 26)]),N 28 (.unOp .not (.tmp 27)),M 24 28] []) (.cond (.tmp 24) (.seq (.region 3 [N 29 (.build [(.sl [] .nil)] []),S 1 6 29,N 7 (.move (I 1))] []) .ret) .skip))))) (.seq (.region 1 [N 10 (.alloc 5 (.agg [(.sl [] .nil)]))] []) (.seq (.seq (.region 4 [A 30 5 0,L 31 30,N 32 (.len .sl (.tmp 31)),N 33 (.move (I 0))] []) (.block 1 (.loop x5h))) (.seq (.region 3 [N 50 (.load (some 1) (.tmp 10)),S 1 6 50,N 7 (.move (I 0))] []) .ret))))))}
theorem y0p:Gam.fn 27=some j4g:=by kernel_rfl
def j4h:AFun:=
 {ntmps:=30,nslots:=5,results:=[.cell 6 (some 1), .tmp 7],byref:=[],owned:=false,
  body:=(.seq (.region 5 [N 3 (.box 0 (.tmp 0)),N 4 (.box 1 (.tmp 1)),N 5 (.box 2 (.tmp 2)),N 6 (.alloc 3 (.agg [(.sl [] .nil)])),N 7 (.move (I 0))] []) (.seq (.region 11 [N 12 (.load (some 2) (.tmp 3)),N 13 (.load (some 8) (.tmp 4)),N 14 (.call 70 [(.tmp 12),(.tmp 13)]),M 11 14,E 15 11 0,E 16 11 1,E 17 11 2,N 8 (.alloc 4 (.agg [(.sl [] .nil),(.sl [] .nil)])),S 2 8 15,M 9 16,M 10 17] []) (.seq (.seq (.region 2 [M 18 10,N 19 (.binOp .neq (.one .int) (.tmp 18) (I 0))] []) (.cond (.tmp 19) (.seq (.region 4 [N 20 (.build [(.sl [] .nil)] []),M 21 10,S 1 6 20,M 7 21] []) .ret) .skip)) (.seq (.seq (.region 4 [N 22 (.load (some 2) (.tmp 3)),N 23 (.load (some 1) (.tmp 5)),N 24 (.call 61 [(.tmp 22),(.tmp 23)]),N 25 (.unOp .not (.tmp 24))] []) (.cond (.tmp 25) (.seq (.region 3 [N 26 (.build [(.sl [] .nil)] []),S 1 6 26,N 7 (.move (I 1))] []) .ret) .skip)) (.seq (.region 5 [N 27 (.load (some 2) (.tmp 8)),N 28 (.load (some 1) (.tmp 5)),N 29 (.call 76 [(.tmp 27),(.tmp 28)]),S 1 6 29,N 7 (.move (I 0))] []) .ret)))))}
theorem y0q:Gam.fn 28=some j4h:=by kernel_rfl
def j1e:ACode:=(.seq (.seq (.region 5 [M 13 5,A 14 2 0,L 15 14,N 16 (.len .sl (.tmp 15)),N 17 (.binOp .lss (.one .int) (.tmp 13) (.tmp 16))] []) (.cond (.tmp 17) .skip (.exit 0))) (.seq (.block 1 (.seq (.region 45 [A 20 2 0,L 21 20,M 22 5,N 23 (.indexAddr none 3 (.tmp 21) (.tmp 22)),A 24 23 0,L 25 24,A 26 3 0,L 27 26,M 28 5,N 29 (.indexAddr none 3 (.tmp 27) (.tmp 28)),A 30 29 0,L 31 30,N 32 (.binOp .neq (.one .str) (.tmp 25) (.tmp 31)),M 33 32,U 34 (.fieldAddr (.tmp 2) 0) 33,U 35 (.load none (.tmp 34)) 33,U 36 (.move (.tmp 5)) 33,U 37 (.indexAddr none 3 (.tmp 35) (.tmp 36)) 33,U 38 (.fieldAddr (.tmp 37) 1) 33,U 39 (.load none (.tmp 38)) 33,U 40 (.fieldAddr (.tmp 3) 0) 33,U 41 (.load none (.tmp 40)) 33,U 42 (.move (.tmp 5)) 33,U 43 (.indexAddr none 3 (.tmp 41) (.tmp 42)) 33,U 44 (.fieldAddr (.tmp 43) 1) 33,U 45 (.load none (.tmp 44)) 33,U 46 (.call 67 [(.tmp 39),(.tmp 45)]) 33,U 47 (.unOp .not (.tmp 46)) 33,N 48 (.pick (.tmp 33) (.const (.bool true)) (.tmp 47)),M 49 48,U 50 (.fieldAddr (.tmp 2) 0) 49,U 51 (.load none (.tmp 50)) 49,U 52 (.move (.tmp 5)) 49,U 53 (.indexAddr none 3 (.tmp 51) (.tmp 52)) 49,U 54 (.fieldAddr (.tmp 53) 2) 49,U 55 (.load none (.tmp 54)) 49,U 56 (.fieldAddr (.tmp 3) 0) 49,U 57 (.load none (.tmp 56)) 49,U 58 (.move (.tmp 5)) 49,U 59 (.indexAddr none 3 (.tmp 57) (.tmp 58)) 49,U 60 (.fieldAddr (.tmp 59) 2) 49,U 61 (.load none (.tmp 60)) 49,U 62 (.call 68 [(.tmp 55),(.tmp 61)]) 49,U 63 (.unOp .not (.tmp 62)) 49,N 64 (.pick (.tmp 49) (.const (.bool true)) (.tmp 63))] []) (.cond (.tmp 64) (.seq (.region 1 [N 4 (.move (.const (.bool false)))] []) .ret) .skip))) (.region 3 [M 18 5,N 19 (.binOp .add (.one .int) (.tmp 18) (I 1)),M 5 19] [])))
def v1p:AFun:=
 {ntmps:=65,nslots:=2,results:=[.tmp 4],byref:=[],owned:=false,
  body:=(.seq (.region 3 [N 2 (.box 0 (.tmp 0)),N 3 (.box 1 (.tmp 1)),N 4 (.move (.const (.bool false)))] []) (.seq (.seq (.region 7 [A 6 2 0,L 7 6,N 8 (.len .sl (.tmp 7)),A 9 3 0,L 10 9,N 11 (.len .sl (.tmp 10)),N 12 (.binOp .neq (.one .int) (.tmp 8) (.tmp 11))] []) (.cond (.tmp 12) (.seq (.region 1 [N 4 (.move (.const (.bool false)))] []) .ret) .skip)) (.seq (.seq (.region 1 [N 5 (.move (I 0))] []) (.block 0 (.loop j1e))) (.seq (.region 1 [N 4 (.move (.const (.bool true)))] []) .ret))))}
theorem y0r:Gam.fn 29=some v1p:=by kernel_rfl
def v1q:AFun:=
 {ntmps:=7,nslots:=0,results:=[.tmp 2],byref:=[],owned:=false,
  body:=(.seq (.region 1 [N 2 (.move (.const (.str [])))] []) (.seq (.seq (.region 2 [M 3 0,N 4 (.binOp .eql (.one .int) (.tmp 3) (I 0))] []) (.cond (.tmp 4) (.seq (.region 1 [N 2 (.move (.const (.str [])))] []) .ret) .skip)) (.seq (.region 3 [M 5 0,N 6 (.call 59 [.tmp 5]),M 2 6] []) .ret)))}
theorem y0s:Gam.fn 52=some v1q:=by kernel_rfl
def j1f:ACode:=(.seq (.region 1 [N 40 (.binOp .lss (.one .int) (.tmp 39) (.tmp 38))] []) (.seq (.cond (.tmp 40) .skip (.exit 2)) (.seq (.block 3 (.seq (.region 4 [N 41 (.indexAddr none 2 (.tmp 37) (.tmp 39)),N 42 (.load (some 2) (.tmp 41)),N 10 (.alloc 4 (.agg [(.str []),(.int .i64 0)])),S 2 10 42] []) (.region 6 [M 43 8,A 44 10 1,L 45 44,N 46 (.buildSlice 5 false (.int .i64 0) 1 [(0,(.tmp 45))]),N 47 (.append 6 1 8 false (.tmp 43) (.tmp 46)),M 8 47] []))) (.region 2 [N 48 (.binOp .add (.one .int) (.tmp 39) (I 1)),M 39 48] []))))
def j1g:ACode:=(.seq (.region 1 [N 27 (.binOp .lss (.one .int) (.tmp 26) (.tmp 25))] []) (.seq (.cond (.tmp 27) .skip (.exit 0)) (.seq (.block 1 (.seq (.region 6 [M 28 26,N 29 (.indexAddr none 3 (.tmp 24) (.tmp 26)),N 30 (.load (some 3) (.tmp 29)),N 6 (.alloc 2 (.agg [(.str []),(.sl [] .nil),(.sl [] .nil)])),M 5 28,S 3 6 30] []) (.seq (.region 7 [A 31 2 0,L 32 31,M 33 5,N 34 (.indexAddr none 3 (.tmp 32) (.tmp 33)),N 35 (.load (some 3) (.tmp 34)),N 7 (.alloc 3 (.agg [(.str []),(.sl [] .nil),(.int .i64 0)])),S 3 7 35] []) (.seq (.region 1 [N 8 (.move (.const (.sl [] .nil)))] []) (.seq (.seq (.region 4 [A 36 6 1,L 37 36,N 38 (.len .sl (.tmp 37)),N 39 (.move (I 0))] []) (.block 2 (.loop j1f))) (.seq (.region 17 [A 49 6 0,L 50 49,A 51 7 0,L 52 51,N 53 (.binOp .neq (.one .str) (.tmp 50) (.tmp 52)),M 54 53,U 55 (.move (.tmp 8)) 54,U 56 (.fieldAddr (.tmp 7) 1) 54,U 57 (.load none (.tmp 56)) 54,U 58 (.call 120 [(.tmp 55),(.tmp 57)]) 54,U 59 (.unOp .not (.tmp 58)) 54,N 60 (.pick (.tmp 54) (.const (.bool true)) (.tmp 59)),M 61 60,U 62 (.load (some 3) (.tmp 6)) 61,U 63 (.call 121 [.tmp 62]) 61,U 64 (.unOp .not (.tmp 63)) 61,N 65 (.pick (.tmp 61) (.const (.bool true)) (.tmp 64))] []) (.cond (.tmp 65) (.seq (.region 1 [N 4 (.move (.const (.bool false)))] []) .ret) .skip))))))) (.region 2 [N 66 (.binOp .add (.one .int) (.tmp 26) (I 1)),M 26 66] []))))
def k3b:AFun:=
 {ntmps:=67,nslots:=7,results:=[.tmp 4],byref:=[],owned:=false,
  body:=(.seq (.region 3 [N 2 (.box 0 (.tmp 0)),N 3 (.box 1 (.tmp 1)),N 4 (.move (.const (.bool false)))] []) (.seq (.seq (.region 12 [N 11 (.load (some 2) (.tmp 2)),N 12 (.call 77 [.tmp 11]),N 13 (.unOp .not (.tmp 12)),M 14 13,U 15 (.fieldAddr (.tmp 3) 0) 14,U 16 (.load none (.tmp 15)) 14,U 17 (.len .sl (.tmp 16)) 14,U 18 (.fieldAddr (.tmp 2) 0) 14,U 19 (.load none (.tmp 18)) 14,U 20 (.len .sl (.tmp 19)) 14,U 21 (.binOp .neq (.one .int) (.tmp 17) (.tmp 20)) 14,N 22 (.pick (.tmp 14) (.const (.bool true)) (.tmp 21))] []) (.cond (.tmp 22) (.seq (.region 1 [N 4 (.move (.const (.bool false)))] []) .ret) .skip)) (.seq (.seq (.region 4 [A 23 3 0,L 24 23,N 25 (.len .sl (.tmp 24)),N 26 (.move (I 0))] []) (.block 0 (.loop j1g))) (.seq (.region 1 [N 4 (.move (.const (.bool true)))] []) .ret))))}
theorem y0t:Gam.fn 55=some k3b:=by kernel_rfl
def j1h:ACode:=(.seq (.region 1 [N 10 (.binOp .lss (.one .int) (.tmp 9) (.tmp 8))] []) (.seq (.cond (.tmp 10) .skip (.exit 0)) (.seq (.block 1 (.seq (.region 4 [N 11 (.indexAddr none 3 (.tmp 7) (.tmp 9)),N 12 (.load (some 3) (.tmp 11)),N 5 (.alloc 3 (.agg [(.str []),(.sl [] .nil),(.sl [] .nil)])),S 3 5 12] []) (.region 8 [A 13 3 0,L 14 13,N 15 (.load (some 3) (.tmp 5)),N 16 (.call 75 [.tmp 15]),N 17 (.buildSlice 4 false (.agg [(.str []),(.sl [] .nil),(.sl [] .nil)]) 1 [(0,(.tmp 16))]),N 18 (.append 5 3 64 false (.tmp 14) (.tmp 17)),A 19 3 0,S 1 19 18] [(1,3),(1,4)]))) (.region 2 [N 20 (.binOp .add (.one .int) (.tmp 9) (I 1)),M 9 20] []))))
def v1r:AFun:=
 {ntmps:=22,nslots:=6,results:=[.cell 2 (some 1)],byref:=[],owned:=false,
  body:=(.seq (.region 2 [N 1 (.box 0 (.tmp 0)),N 2 (.alloc 1 (.agg [(.sl [] .nil)]))] []) (.seq (.region 1 [N 3 (.alloc 2 (.agg [(.sl [] .nil)]))] []) (.seq (.seq (.region 4 [A 6 1 0,L 7 6,N 8 (.len .sl (.tmp 7)),N 9 (.move (I 0))] []) (.block 0 (.loop j1h))) (.seq (.region 2 [N 21 (.load (some 1) (.tmp 3)),S 1 2 21] []) .ret))))}
theorem y0u:Gam.fn 56=some v1r:=by kernel_rfl
def x5i:ACode:=(.seq (.region 1 [N 22 (.binOp .lss (.one .int) (.tmp 21) (.tmp 20))] []) (.seq (.cond (.tmp 22) .skip (.exit 0)) (.seq (.block 1 (.seq (.region 5 [M 23 21,N 24 (.indexAddr none 1 (.tmp 19) (.tmp 21)),L 25 24,M 6 23,M 7 25] []) (.region 11 [A 26 5 1,L 27 26,M 28 6,N 29 (.call 122 [.tmp 28]),N 30 (.binOp .add (.one .str) (.const (.str [112])) (.tmp 29)),M 31 7,N 32 (.build [(.str []),(.int .i64 0)] [(0,1,(.tmp 30)),(1,1,(.tmp 31))]),N 33 (.buildSlice 4 false (.agg [(.str []),(.int .i64 0)]) 1 [(0,(.tmp 32))]),N 34 (.append 5 2 24 false (.tmp 27) (.tmp 33)),A 35 5 1,S 1 35 34] [(1,3),(1,7)]))) (.region 2 [N 36 (.binOp .add (.one .int) (.tmp 21) (I 1)),M 21 36] []))))
def k3c:AFun:=
 {ntmps:=38,nslots:=6,results:=[.cell 4 (some 3)],byref:=[],owned:=false,
  body:=(.seq (.region 2 [N 2 (.box 0 (.tmp 0)),N 4 (.alloc 1 (.agg [(.str []),(.sl [] .nil),(.sl [] .nil)]))] []) (.seq (.region 7 [A 8 2 0,L 9 8,N 10 (.build [(.int .i64 0),(.int .i64 0),(.str []),(.str []),(.int .i64 0)] [(0,1,(I 2))]),N 11 (.buildSlice 2 true (.agg [(.int .i64 0),(.int .i64 0),(.str []),(.str []),(.int .i64 0)]) 1 [(0,(.tmp 10))]),N 12 (.build [(.str []),(.sl [] .nil),(.sl [] .nil)] [(0,1,(.tmp 9)),(2,1,(.tmp 11))]),N 5 (.alloc 3 (.agg [(.str []),(.sl [] .nil),(.sl [] .nil)])),S 3 5 12] []) (.seq (.seq (.region 1 [M 13 1] []) (.cond (.tmp 13) (.region 5 [A 14 5 2,L 15 14,N 16 (.indexAddr none 5 (.tmp 15) (I 0)),A 17 16 0,⟨none, .store 1 (.tmp 17) (I 1),none⟩] []) .skip)) (.seq (.seq (.region 4 [A 18 2 1,L 19 18,N 20 (.len .sl (.tmp 19)),N 21 (.move (I 0))] []) (.block 0 (.loop x5i))) (.seq (.region 2 [N 37 (.load (some 3) (.tmp 5)),S 3 4 37] []) .ret)))))}
theorem y0v:Gam.fn 57=some k3c:=by kernel_rfl
def j1i:ACode:=(.seq (.seq (.region 5 [M 59 7,A 60 6 1,L 61 60,N 62 (.len .sl (.tmp 61)),N 63 (.binOp .lss (.one .int) (.tmp 59) (.tmp 62))] []) (.cond (.tmp 63) .skip (.exit 2))) (.seq (.block 3 (.seq (.region 16 [A 66 6 1,L 67 66,M 68 7,N 69 (.indexAddr none 2 (.tmp 67) (.tmp 68)),A 70 69 1,L 71 70,A 72 2 0,L 73 72,M 74 5,N 75 (.indexAddr none 3 (.tmp 73) (.tmp 74)),A 76 75 1,L 77 76,M 78 7,N 79 (.indexAddr none 1 (.tmp 77) (.tmp 78)),L 80 79,N 81 (.binOp .neq (.one .int) (.tmp 71) (.tmp 80))] []) (.cond (.tmp 81) (.seq (.region 1 [N 4 (.move (.const (.bool false)))] []) .ret) .skip))) (.region 3 [M 64 7,N 65 (.binOp .add (.one .int) (.tmp 64) (I 1)),M 7 65] [])))
def x5j:ACode:=(.seq (.seq (.region 5 [M 20 5,A 21 3 0,L 22 21,N 23 (.len .sl (.tmp 22)),N 24 (.binOp .lss (.one .int) (.tmp 20) (.tmp 23))] []) (.cond (.tmp 24) .skip (.exit 0))) (.seq (.block 1 (.seq (.region 7 [A 27 3 0,L 28 27,M 29 5,N 30 (.indexAddr none 3 (.tmp 28) (.tmp 29)),N 31 (.load (some 3) (.tmp 30)),N 6 (.alloc 2 (.agg [(.str []),(.sl [] .nil),(.sl [] .nil)])),S 3 6 31] []) (.seq (.seq (.region 27 [N 32 (.load (some 3) (.tmp 6)),N 33 (.call 126 [.tmp 32]),N 34 (.unOp .not (.tmp 33)),M 35 34,U 36 (.fieldAddr (.tmp 6) 0) 35,U 37 (.load none (.tmp 36)) 35,U 38 (.fieldAddr (.tmp 2) 0) 35,U 39 (.load none (.tmp 38)) 35,U 40 (.move (.tmp 5)) 35,U 41 (.indexAddr none 3 (.tmp 39) (.tmp 40)) 35,U 42 (.fieldAddr (.tmp 41) 0) 35,U 43 (.load none (.tmp 42)) 35,U 44 (.binOp .neq (.one .str) (.tmp 37) (.tmp 43)) 35,N 45 (.pick (.tmp 35) (.const (.bool true)) (.tmp 44)),M 46 45,U 47 (.fieldAddr (.tmp 6) 1) 46,U 48 (.load none (.tmp 47)) 46,U 49 (.len .sl (.tmp 48)) 46,U 50 (.fieldAddr (.tmp 2) 0) 46,U 51 (.load none (.tmp 50)) 46,U 52 (.move (.tmp 5)) 46,U 53 (.indexAddr none 3 (.tmp 51) (.tmp 52)) 46,U 54 (.fieldAddr (.tmp 53) 1) 46,U 55 (.load none (.tmp 54)) 46,U 56 (.len .sl (.tmp 55)) 46,U 57 (.binOp .neq (.one .int) (.tmp 49) (.tmp 56)) 46,N 58 (.pick (.tmp 46) (.const (.bool true)) (.tmp 57))] []) (.cond (.tmp 58) (.seq (.region 1 [N 4 (.move (.const (.bool false)))] []) .ret) .skip)) (.seq (.region 1 [N 7 (.move (I 0))] []) (.block 2 (.loop j1i)))))) (.region 3 [M 25 5,N 26 (.binOp .add (.one .int) (.tmp 25) (I 1)),M 5 26] [])))
def k3d:AFun:=
 {ntmps:=82,nslots:=3,results:=[.tmp 4],byref:=[],owned:=false,
  body:=(.seq (.region 3 [N 2 (.box 0 (.tmp 0)),N 3 (.box 1 (.tmp 1)),N 4 (.move (.const (.bool false)))] []) (.seq (.seq (.region 12 [N 8 (.load (some 2) (.tmp 2)),N 9 (.call 44 [.tmp 8]),N 10 (.unOp .not (.tmp 9)),M 11 10,U 12 (.fieldAddr (.tmp 3) 0) 11,U 13 (.load none (.tmp 12)) 11,U 14 (.len .sl (.tmp 13)) 11,U 15 (.fieldAddr (.tmp 2) 0) 11,U 16 (.load none (.tmp 15)) 11,U 17 (.len .sl (.tmp 16)) 11,U 18 (.binOp .neq (.one .int) (.tmp 14) (.tmp 17)) 11,N 19 (.pick (.tmp 11) (.const (.bool true)) (.tmp 18))] []) (.cond (.tmp 19) (.seq (.region 1 [N 4 (.move (.const (.bool false)))] []) .ret) .skip)) (.seq (.seq (.region 1 [N 5 (.move (I 0))] []) (.block 0 (.loop x5j))) (.seq (.region 1 [N 4 (.move (.const (.bool true)))] []) .ret))))}
theorem y0w:Gam.fn 61=some k3d:=by kernel_rfl
def j1j:ACode:=(.seq (.seq (.region 5 [M 12 6,A 13 2 1,L 14 13,N 15 (.len .sl (.tmp 14)),N 16 (.binOp .lss (.one .int) (.tmp 12) (.tmp 15))] []) (.cond (.tmp 16) .skip (.exit 0))) (.seq (.block 1 (.region 15 [A 19 5 1,L 20 19,M 21 6,N 22 (.call 59 [.tmp 21]),N 23 (.binOp .add (.one .str) (.const (.str [112])) (.tmp 22)),A 24 2 1,L 25 24,M 26 6,N 27 (.indexAddr none 1 (.tmp 25) (.tmp 26)),L 28 27,N 29 (.build [(.str []),(.int .i64 0)] [(0,1,(.tmp 23)),(1,1,(.tmp 28))]),N 30 (.buildSlice 3 false (.agg [(.str []),(.int .i64 0)]) 1 [(0,(.tmp 29))]),N 31 (.append 4 2 24 false (.tmp 20) (.tmp 30)),A 32 5 1,S 1 32 31] [(1,3),(3,6),(3,8),(3,9),(1,11)])) (.region 3 [M 17 6,N 18 (.binOp .add (.one .int) (.tmp 17) (I 1)),M 6 18] [])))
def v1s:AFun:=
 {ntmps:=34,nslots:=5,results:=[.cell 4 (some 3)],byref:=[],owned:=false,
  body:=(.seq (.region 2 [N 2 (.box 0 (.tmp 0)),N 4 (.alloc 1 (.agg [(.str []),(.sl [] .nil),(.sl [] .nil)]))] []) (.seq (.region 7 [A 7 2 0,L 8 7,M 9 1,N 10 (.call 54 [.tmp 9]),N 11 (.build [(.str []),(.sl [] .nil),(.sl [] .nil)] [(0,1,(.tmp 8)),(2,1,(.tmp 10))]),N 5 (.alloc 2 (.agg [(.str []),(.sl [] .nil),(.sl [] .nil)])),S 3 5 11] [(1,3),(1,5),(3,5)]) (.seq (.seq (.region 1 [N 6 (.move (I 0))] []) (.block 0 (.loop j1j))) (.seq (.region 2 [N 33 (.load (some 3) (.tmp 5)),S 3 4 33] []) .ret))))}
theorem y0x:Gam.fn 72=some v1s:=by kernel_rfl
def j1k:ACode:=(.seq (.seq (.region 5 [M 6 4,A 7 1 0,L 8 7,N 9 (.len .sl (.tmp 8)),N 10 (.binOp .lss (.one .int) (.tmp 6) (.tmp 9))] []) (.cond (.tmp 10) .skip (.exit 0))) (.seq (.block 1 (.seq (.region 7 [A 13 1 0,L 14 13,M 15 4,N 16 (.indexAddr none 3 (.tmp 14) (.tmp 15)),N 17 (.load (some 3) (.tmp 16)),N 5 (.alloc 3 (.agg [(.str []),(.sl [] .nil),(.sl [] .nil)])),S 3 5 17] []) (.region 15 [A 18 3 0,L 19 18,A 20 5 0,L 21 20,A 22 5 1,L 23 22,N 24 (.append 4 2 24 false (.const (.sl [] .nil)) (.tmp 23)),A 25 5 2,L 26 25,N 27 (.append 5 5 56 false (.const (.sl [] .nil)) (.tmp 26)),N 28 (.build [(.str []),(.sl [] .nil),(.sl [] .nil)] [(0,1,(.tmp 21)),(1,1,(.tmp 24)),(2,1,(.tmp 27))]),N 29 (.buildSlice 6 false (.agg [(.str []),(.sl [] .nil),(.sl [] .nil)]) 1 [(0,(.tmp 28))]),N 30 (.append 7 3 64 false (.tmp 19) (.tmp 29)),A 31 3 0,S 1 31 30] [(1,6),(3,6),(6,8),(1,9),(3,9),(1,11)]))) (.region 3 [M 11 4,N 12 (.binOp .add (.one .int) (.tmp 11) (I 1)),M 4 12] [])))
def v1t:AFun:=
 {ntmps:=33,nslots:=8,results:=[.cell 2 (some 1)],byref:=[],owned:=false,
  body:=(.seq (.region 2 [N 1 (.box 0 (.tmp 0)),N 2 (.alloc 1 (.agg [(.sl [] .nil)]))] []) (.seq (.region 1 [N 3 (.alloc 2 (.agg [(.sl [] .nil)]))] []) (.seq (.seq (.region 1 [N 4 (.move (I 0))] []) (.block 0 (.loop j1k))) (.seq (.region 2 [N 32 (.load (some 1) (.tmp 3)),S 1 2 32] []) .ret))))}
theorem y0y:Gam.fn 74=some v1t:=by kernel_rfl
def v1u:AFun:=
 {ntmps:=12,nslots:=2,results:=[.cell 2 (some 3)],byref:=[],owned:=false,
  body:=(.seq (.region 2 [N 1 (.box 0 (.tmp 0)),N 2 (.alloc 1 (.agg [(.str []),(.sl [] .nil),(.sl [] .nil)]))] []) (.seq (.region 10 [A 3 1 0,L 4 3,A 5 1 1,L 6 5,N 7 (.call 93 [.tmp 6]),A 8 1 2,L 9 8,N 10 (.call 94 [.tmp 9]),N 11 (.build [(.str []),(.sl [] .nil),(.sl [] .nil)] [(0,1,(.tmp 4)),(1,1,(.tmp 7)),(2,1,(.tmp 10))]),S 3 2 11] [(1,4),(4,6),(1,7)]) .ret))}
theorem y0z:Gam.fn 75=some v1u:=by kernel_rfl
def x5k:ACode:=(.seq (.seq (.region 5 [M 7 6,A 8 3 0,L 9 8,N 10 (.len .sl (.tmp 9)),N 11 (.binOp .lss (.one .int) (.tmp 7) (.tmp 10))] []) (.cond (.tmp 11) .skip (.exit 0))) (.seq (.block 1 (.seq (.region 9 [N 14 (.load (some 2) (.tmp 2)),A 15 3 0,L 16 15,M 17 6,N 18 (.indexAddr none 3 (.tmp 16) (.tmp 17)),A 19 18 0,L 20 19,N 21 (.call 71 [(.tmp 14),(.tmp 20)]),N 22 (.binOp .geq (.one .int) (.tmp 21) (I 0))] []) (.cond (.tmp 22) (.region 11 [A 23 5 0,L 24 23,A 25 3 0,L 26 25,M 27 6,N 28 (.indexAddr none 3 (.tmp 26) (.tmp 27)),N 29 (.load (some 3) (.tmp 28)),N 30 (.buildSlice 4 false (.agg [(.str []),(.sl [] .nil),(.sl [] .nil)]) 1 [(0,(.tmp 29))]),N 31 (.append 5 3 64 false (.tmp 24) (.tmp 30)),A 32 5 0,S 1 32 31] [(1,7)]) .skip))) (.region 3 [M 12 6,N 13 (.binOp .add (.one .int) (.tmp 12) (I 1)),M 6 13] [])))
def v1v:AFun:=
 {ntmps:=35,nslots:=6,results:=[.cell 4 (some 1)],byref:=[],owned:=false,
  body:=(.seq (.region 3 [N 2 (.box 0 (.tmp 0)),N 3 (.box 1 (.tmp 1)),N 4 (.alloc 2 (.agg [(.sl [] .nil)]))] []) (.seq (.region 1 [N 5 (.alloc 3 (.agg [(.sl [] .nil)]))] []) (.seq (.seq (.region 1 [N 6 (.move (I 0))] []) (.block 0 (.loop x5k))) (.seq (.region 3 [N 33 (.load (some 1) (.tmp 5)),N 34 (.call 74 [.tmp 33]),S 1 4 34] []) .ret))))}
theorem y1a:Gam.fn 76=some v1v:=by kernel_rfl
def v1w:AFun:=
 {ntmps:=26,nslots:=1,results:=[.tmp 2],byref:=[],owned:=false,
  body:=(.seq (.region 2 [N 1 (.box 0 (.tmp 0)),N 2 (.move (.const (.bool false)))] []) (.seq (.seq (.region 17 [A 3 1 1,L 4 3,N 5 (.call 179 [.tmp 4]),N 6 (.unOp .not (.tmp 5)),M 7 6,U 8 (.fieldAddr (.tmp 1) 2) 7,U 9 (.load none (.tmp 8)) 7,U 10 (.call 180 [.tmp 9]) 7,U 11 (.binOp .neq (.one .int) (.tmp 10) (I 1)) 7,N 12 (.pick (.tmp 7) (.const (.bool true)) (.tmp 11)),M 13 12,U 14 (.fieldAddr (.tmp 1) 2) 13,U 15 (.load none (.tmp 14)) 13,U 16 (.call 181 [.tmp 15]) 13,U 17 (.len .sl (.tmp 16)) 13,U 18 (.binOp .gtr (.one .int) (.tmp 17) (I 0)) 13,N 19 (.pick (.tmp 13) (.const (.bool true)) (.tmp 18))] []) (.cond (.tmp 19) (.seq (.region 1 [N 2 (.move (.const (.bool false)))] []) .ret) .skip)) (.seq (.region 7 [A 20 1 2,L 21 20,N 22 (.call 183 [.tmp 21]),N 23 (.makeFunc 184 [.tmp 1]),N 24 (.call 182 [(.tmp 22),(.tmp 23)]),N 25 (.unOp .not (.tmp 24)),M 2 25] []) .ret)))}
theorem y1b:Gam.fn 121=some v1w:=by kernel_rfl
def j1l:ACode:=(.seq (.seq (.region 5 [M 22 3,A 23 1 1,L 24 23,N 25 (.len .sl (.tmp 24)),N 26 (.binOp .lss (.one .int) (.tmp 22) (.tmp 25))] []) (.cond (.tmp 26) .skip (.exit 0))) (.seq (.block 1 (.seq (.region 31 [A 29 1 1,L 30 29,M 31 3,N 32 (.indexAddr none 2 (.tmp 30) (.tmp 31)),A 33 32 0,L 34 33,N 35 (.call 144 [.tmp 34]),N 36 (.unOp .not (.tmp 35)),M 37 36,U 38 (.fieldAddr (.tmp 1) 1) 37,U 39 (.load none (.tmp 38)) 37,U 40 (.move (.tmp 3)) 37,U 41 (.indexAddr none 2 (.tmp 39) (.tmp 40)) 37,U 42 (.fieldAddr (.tmp 41) 1) 37,U 43 (.load none (.tmp 42)) 37,U 44 (.call 191 [.tmp 43]) 37,U 45 (.unOp .not (.tmp 44)) 37,N 46 (.pick (.tmp 37) (.const (.bool true)) (.tmp 45)),M 47 46,U 48 (.fieldAddr (.tmp 1) 1) 47,U 49 (.load none (.tmp 48)) 47,U 50 (.move (.tmp 3)) 47,U 51 (.slice (some 2) (.tmp 49) none (some (.tmp 50)) none) 47,U 52 (.fieldAddr (.tmp 1) 1) 47,U 53 (.load none (.tmp 52)) 47,U 54 (.move (.tmp 3)) 47,U 55 (.indexAddr none 2 (.tmp 53) (.tmp 54)) 47,U 56 (.fieldAddr (.tmp 55) 0) 47,U 57 (.load none (.tmp 56)) 47,U 58 (.call 192 [(.tmp 51),(.tmp 57)]) 47,N 59 (.pick (.tmp 47) (.const (.bool true)) (.tmp 58))] []) (.cond (.tmp 59) (.seq (.region 1 [N 2 (.move (.const (.bool false)))] []) .ret) .skip))) (.region 3 [M 27 3,N 28 (.binOp .add (.one .int) (.tmp 27) (I 1)),M 3 28] [])))
def v1x:AFun:=
 {ntmps:=60,nslots:=1,results:=[.tmp 2],byref:=[],owned:=false,
  body:=(.seq (.region 2 [N 1 (.box 0 (.tmp 0)),N 2 (.move (.const (.bool false)))] []) (.seq (.seq (.region 18 [A 4 1 0,L 5 4,N 6 (.call 144 [.tmp 5]),N 7 (.unOp .not (.tmp 6)),M 8 7,U 9 (.fieldAddr (.tmp 1) 1) 8,U 10 (.load none (.tmp 9)) 8,U 11 (.len .sl (.tmp 10)) 8,U 12 (.binOp .gtr (.one .int) (.tmp 11) (I 40)) 8,N 13 (.pick (.tmp 8) (.const (.bool true)) (.tmp 12)),M 14 13,U 15 (.fieldAddr (.tmp 1) 2) 14,U 16 (.load none (.tmp 15)) 14,U 17 (.fieldAddr (.tmp 1) 1) 14,U 18 (.load none (.tmp 17)) 14,U 19 (.call 170 [(.tmp 16),(I 1),(.tmp 18)]) 14,U 20 (.unOp .not (.tmp 19)) 14,N 21 (.pick (.tmp 14) (.const (.bool true)) (.tmp 20))] []) (.cond (.tmp 21) (.seq (.region 1 [N 2 (.move (.const (.bool false)))] []) .ret) .skip)) (.seq (.seq (.region 1 [N 3 (.move (I 0))] []) (.block 0 (.loop j1l))) (.seq (.region 1 [N 2 (.move (.const (.bool true)))] []) .ret))))}
theorem y1c:Gam.fn 126=some v1x:=by kernel_rfl
def j1m:ACode:=(.seq (.region 1 [N 10 (.binOp .lss (.one .int) (.tmp 9) (.tmp 8))] []) (.seq (.cond (.tmp 10) .skip (.exit 0)) (.seq (.block 1 (.seq (.region 4 [N 11 (.indexAddr none 2 (.tmp 7) (.tmp 9)),N 12 (.load (some 2) (.tmp 11)),N 5 (.alloc 1 (.agg [(.str []),(.int .i64 0)])),S 2 5 12] []) (.seq (.seq (.region 16 [M 13 3,A 14 5 0,L 15 14,N 16 (.lookup (.one .str) (.bool false) (.tmp 13) (.tmp 15) false),M 17 16,U 18 (.fieldAddr (.tmp 5) 0) 17,U 19 (.load none (.tmp 18)) 17,U 20 (.call 210 [.tmp 19]) 17,U 21 (.unOp .not (.tmp 20)) 17,N 22 (.pick (.tmp 17) (.const (.bool true)) (.tmp 21)),M 23 22,U 24 (.fieldAddr (.tmp 5) 1) 23,U 25 (.load none (.tmp 24)) 23,U 26 (.call 248 [.tmp 25]) 23,U 27 (.unOp .not (.tmp 26)) 23,N 28 (.pick (.tmp 23) (.const (.bool true)) (.tmp 27))] []) (.cond (.tmp 28) (.seq (.region 1 [N 2 (.move (.const (.bool false)))] []) .ret) .skip)) (.region 4 [M 29 3,A 30 5 0,L 31 30,⟨none, .mapUpdate (.one .str) (.tmp 29) (.tmp 31) (.const (.bool true)),none⟩] [])))) (.region 2 [N 32 (.binOp .add (.one .int) (.tmp 9) (I 1)),M 9 32] []))))
def v1y:AFun:=
 {ntmps:=33,nslots:=2,results:=[.tmp 2],byref:=[],owned:=false,
  body:=(.seq (.region 1 [N 2 (.move (.const (.bool false)))] []) (.seq (.region 2 [N 6 (.makeMap 0),M 3 6] []) (.seq (.seq (.region 3 [M 7 0,N 8 (.len .sl (.tmp 7)),N 9 (.move (I 0))] []) (.block 0 (.loop j1m))) (.seq (.region 1 [N 2 (.move (.const (.bool true)))] []) .ret))))}
theorem y1d:Gam.fn 179=some v1y:=by kernel_rfl
def v1z:AFun:=
 {ntmps:=9,nslots:=1,results:=[.tmp 3],byref:=[],owned:=false,
  body:=(.seq (.region 2 [N 2 (.box 0 (.tmp 0)),N 3 (.move (.const (.bool false)))] []) (.seq (.region 6 [A 4 1 1,L 5 4,N 6 (.load (some 2) (.tmp 2)),N 7 (.call 185 [(.tmp 5),(.tmp 6)]),N 8 (.unOp .not (.tmp 7)),M 3 8] []) .ret))}
theorem y1e:Gam.fn 184=some v1z:=by kernel_rfl
def v2a:AFun:=
 {ntmps:=9,nslots:=1,results:=[.tmp 4],byref:=[],owned:=false,
  body:=(.seq (.region 2 [N 3 (.box 0 (.tmp 1)),N 4 (.move (.const (.bool false)))] []) (.seq (.region 5 [M 5 0,N 6 (.load (some 2) (.tmp 3)),N 7 (.call 251 [(.tmp 5),(.tmp 6)]),N 8 (.binOp .geq (.one .int) (.tmp 7) (I 0)),M 4 8] []) .ret))}
theorem y1f:Gam.fn 185=some v2a:=by kernel_rfl
def v2b:AFun:=
 {ntmps:=9,nslots:=0,results:=[.tmp 2],byref:=[],owned:=false,
  body:=(.seq (.region 1 [N 2 (.move (.const (.bool false)))] []) (.seq (.region 7 [M 3 0,N 4 (.binOp .geq (.one .int) (.tmp 3) (I 1)),M 5 4,V 6 (.move (.tmp 0)) 5,V 7 (.binOp .leq (.one .int) (.tmp 6) (I 4)) 5,N 8 (.pick (.tmp 5) (.tmp 7) (.const (.bool false))),M 2 8] []) .ret))}
theorem y1g:Gam.fn 248=some v2b:=by kernel_rfl
def j1n:ACode:=(.seq (.region 1 [N 9 (.binOp .lss (.one .int) (.tmp 8) (.tmp 7))] []) (.seq (.cond (.tmp 9) .skip (.exit 0)) (.seq (.block 1 (.seq (.region 2 [M 10 8,M 5 10] []) (.seq (.region 6 [N 11 (.load (some 2) (.tmp 3)),M 12 0,M 13 5,N 14 (.indexAddr none 2 (.tmp 12) (.tmp 13)),N 15 (.load (some 2) (.tmp 14)),N 16 (.binOp .eql (.agg [.str, .int]) (.tmp 11) (.tmp 15))] []) (.cond (.tmp 16) (.seq (.region 2 [M 17 5,M 4 17] []) .ret) .skip)))) (.region 2 [N 18 (.binOp .add (.one .int) (.tmp 8) (I 1)),M 8 18] []))))
def v2c:AFun:=
 {ntmps:=19,nslots:=1,results:=[.tmp 4],byref:=[],owned:=false,
  body:=(.seq (.region 2 [N 3 (.box 0 (.tmp 1)),N 4 (.move (I 0))] []) (.seq (.seq (.region 3 [M 6 0,N 7 (.len .sl (.tmp 6)),N 8 (.move (I 0))] []) (.block 0 (.loop j1n))) (.seq (.region 1 [N 4 (.move (I (-1)))] []) .ret)))}
theorem y1h:Gam.fn 251=some v2c:=by kernel_rfl
end
structure Def where
 pred:List Nat
 params:List Var
 body:Term
def z4j (d:Def):AV:= .agg [.str d.pred, .sl (d.params.map z1b) .no, .sl (d.body.map eNode) .no]
def z5l (m:List Def):AV:= .agg [.sl (m.map z4j) .no]
theorem z3m (d:Def):(z4j d).ids=[]:=by simp[z4j,AV.ids,idsL,z0c z2b,z0c z1y]
theorem z7a (m:List Def):(z5l m).ids=[]:=by simp[z5l,AV.ids,idsL,z0c z3m]
theorem z1v {l:List Def}:z0t 3 (l.map z4j)=true:=z3o fun _=>⟨rfl,rfl,rfl⟩
theorem q1i {l:List Def} {i:Nat} {h:List AObj} {t:Tip} {k:IntKind} (hi:i < l.length):z1m h 3 (.sl (l.map z4j) t) (.int k (i:Int))=some (.iptr [.str l[i].pred, .sl (l[i].params.map z1b) .no, .sl (l[i].body.map eNode) .no] 0,h):=z2f hi rfl rfl
structure DefS (d:Def):Prop where
 params:d.params.length≤20000
 body:d.body.length≤20000
theorem j4i {d:Def} {u v:Tip} (hd:DefS d):Pure Gam 75 [.agg [.str d.pred, .sl (d.params.map z1b) u, .sl (d.body.map eNode) v]] (z4j d):=by
 have h1:=hd.params
 have h2:=hd.body
 refine Pure.of rfl y0z rfl rfl rfl (az:=[z4j d]) rfl (by simp[idsL,z3m]) fun D B clk T hB hT=> ?_
 simp only[go_sem,v1u,hB,z4j,z1i,z0a (v1i (xs:=d.params) (t:= .no) (by omega)),z0a (k2l (xs:=d.body) (t:= .no) (by omega)),z0n,z0m,z0g]
 refine⟨by simp[z1f,apart,z0i,z1d,z1h,AOp.isCall,hB], ?_⟩
 rw[z2x rfl (by simp[AV.cv,cvL,AV.ids,idsL,z0c z2b,z0c z1y])]
 exact hT _
theorem k8c {m:List Def} (hl:m.length≤1000) (hm:∀ d∈m,DefS d):Pure Gam 56 [z5l m] (z5l m):=by
 refine Pure.of rfl y0u rfl rfl rfl (az:=[z5l m]) rfl (by simp[idsL,z7a]) fun D B clk T hB hT=> ?_
 simp only[go_sem,v1r,hB,z5l,List.length_map]
 refine z6z m.length (by omega) (fun i q=>∃ (g0 g1 g2:Nat) (t:Tip) (o3 o4 o5:AObj),q.ts 1= .ptr (B + 0) g0 0 0∧q.ts 2= .ptr (B + 1) g1 0 0∧q.ts 3= .ptr (B + 2) g2 0 0∧q.ts 7= .sl (m.map z4j) .no∧q.ts 8= .int .i64 (m.length:Int)∧q.ts 9= .int .i64 (i:Int)∧q.h=D++[.blk g0 [.agg [.sl (m.map z4j) .no]] false false 0, .blk g1 [.agg [.sl [] .nil]] false false 0, .blk g2 [.agg [.sl ((m.take i).map z4j) t]] false false 0,o3,o4,o5]∧z8k B 5 o5 t 3) ⟨_,_,_, .nil,_,_,_,rfl,rfl,rfl,rfl,rfl,rfl,rfl, .inl rfl⟩ ?_ ?_
 ·rintro i hlt f1 f2 ts h clk P ⟨g0,g1,g2,t,o3,o4,o5,q1,q2,q3,q7,q8,q9,rfl,ht⟩ hnx he hr
  dsimp only at q1 q2 q3 q7 q8 q9
  have hix:=fun h=>q1i (l:=m) (i:=i) (h:=h) (t:= .no) (k:= .i64) hlt
  have e8:(m.take i).map z4j++[m[i]].map z4j=(m.take (i + 1)).map z4j:=by rw[List.take_succ_eq_append_getElem hlt,List.map_append]
  have hp:=j4i (u:= .no) (v:= .no) (hm _ (List.getElem_mem hlt))
  rw[z4j] at hp
  generalize m[i]=d at *
  simp only[go_sem,j1h,q1,q2,q3,q7,q8,q9,hB,z1i,f1,hix,z0a hp]
  rw[show [AV.agg [.str d.pred, .sl (d.params.map z1b) .no, .sl (d.body.map eNode) .no]]=[d].map z4j from rfl,z0j hB rfl ht z1v z1v (by simp only[List.length_map,List.length_singleton,List.length_take];omega),e8]
  simp only[go_sem,q1,q2,q3,q7,q8,q9,hB,f2]
  refine⟨by simp[z1f,apart,z0i,z1d,z1h,AOp.isCall,hB,AV.ids,idsL,z0c z3m,z0c z2b,z0c z1y], ?_⟩
  exact hnx _ ⟨g0,g1,g2,_,_,_,_,q1,q2,q3,q7,q8,rfl,rfl, .inr (.inr ⟨_,rfl,rfl⟩)⟩
 ·rintro f1 ts h clk P ⟨g0,g1,g2,t,o3,o4,o5,q1,q2,q3,q7,q8,q9,rfl,ht⟩ he hr
  dsimp only at q1 q2 q3 q7 q8 q9
  rw[List.take_length]
  simp only[go_sem,j1h,q1,q2,q3,q7,q8,q9,hB,f1]
  refine he _ _ ?_
  simp only[go_sem,q1,q2,q3,hB,z0n,z0m,z0g]
  rw[z2x rfl (by simp[AV.cv,cvL,AV.ids,idsL,z0c z3m])]
  exact hT _
theorem j4j {m:List Def} {u:Tip} (hl:m.length≤1000) (hm:∀ d∈m,DefS d):Pure Gam 74 [.agg [.sl (m.map z4j) u]] (z5l m):=by
 refine Pure.of rfl y0y rfl rfl rfl (az:=[z5l m]) rfl (by simp[idsL,z7a]) fun D B clk T hB hT=> ?_
 simp only[go_sem,v1t,hB,z5l]
 refine z6z m.length (by omega) (fun i q=>∃ (g0 g1 g2:Nat) (t:Tip) (o3 o4 o5 o6 o7:AObj),q.ts 1= .ptr (B + 0) g0 0 0∧q.ts 2= .ptr (B + 1) g1 0 0∧q.ts 3= .ptr (B + 2) g2 0 0∧q.ts 4= .int .i64 (i:Int)∧q.h=D++[.blk g0 [.agg [.sl (m.map z4j) .no]] false false 0, .blk g1 [.agg [.sl [] .nil]] false false 0, .blk g2 [.agg [.sl ((m.take i).map z4j) t]] false false 0,o3,o4,o5,o6,o7]∧z8k B 7 o7 t 3) ⟨_,_,_, .nil,_,_,_,_,_,rfl,rfl,rfl,rfl,rfl, .inl rfl⟩ ?_ ?_
 ·rintro i hlt f1 f2 ts h clk P ⟨g0,g1,g2,t,o3,o4,o5,o6,o7,q1,q2,q3,q4,rfl,ht⟩ hnx he hr
  dsimp only at q1 q2 q3 q4
  have hix:=fun h=>q1i (l:=m) (i:=i) (h:=h) (t:= .no) (k:= .i64) hlt
  have e8:(m.take i).map z4j++[m[i]].map z4j=(m.take (i + 1)).map z4j:=by rw[List.take_succ_eq_append_getElem hlt,List.map_append]
  have hd:=hm _ (List.getElem_mem hlt)
  have h1:=hd.params
  have h2:=hd.body
  generalize m[i]=d at *
  simp only[go_sem,j1k,q1,q2,q3,q4,hB,z1i,f1,hix,List.length_map]
  rw[append_nil hB rfl z2e (by rw[List.length_map];omega)]
  simp only[go_sem,q1,q2,q3,q4,hB]
  rw[append_nil hB rfl z6l (by rw[List.length_map];omega)]
  simp only[go_sem,q1,q2,q3,q4,hB]
  rw[show [AV.agg [.str d.pred, .sl (d.params.map z1b) .no, .sl (d.body.map eNode) .no]]=[d].map z4j from rfl,z0j hB rfl ht z1v z1v (by simp only[List.length_map,List.length_singleton,List.length_take];omega),e8]
  simp only[go_sem,q1,q2,q3,q4,hB,f2]
  refine⟨by simp[z1f,apart,z0i,z1d,z1h,AOp.isCall,hB,AV.ids,idsL,z0c z3m,z0c z2b,z0c z1y], ?_⟩
  exact hnx _ ⟨g0,g1,g2,_,_,_,_,_,_,q1,q2,q3,rfl,rfl, .inr (.inr ⟨_,rfl,rfl⟩)⟩
 ·rintro f1 ts h clk P ⟨g0,g1,g2,t,o3,o4,o5,o6,o7,q1,q2,q3,q4,rfl,ht⟩ he hr
  dsimp only at q1 q2 q3 q4
  rw[List.take_length]
  simp only[go_sem,j1k,q1,q2,q3,q4,hB,f1,List.length_map]
  refine he _ _ ?_
  simp only[go_sem,q1,q2,q3,hB,z0n,z0m,z0g]
  rw[z2x rfl (by simp[AV.cv,cvL,AV.ids,idsL,z0c z3m])]
  exact hT _
theorem j4k {m:List Def} (hl:m.length≤1000) (hm:∀ d∈m,DefS d):Pure Gam 29 [z5l m,z5l m] (.bool true):=by
 refine Pure.of rfl y0r rfl rfl rfl (az:=[z5l m,z5l m]) rfl (by simp[idsL,z7a]) fun D B clk T hB hT=> ?_
 simp only[go_sem,v1p,hB,z5l,List.length_map,decide_true,Bool.not_true]
 refine z6z m.length (by omega) (fun i q=>∃ (g0 g1:Nat),q.ts 2= .ptr (B + 0) g0 0 0∧q.ts 3= .ptr (B + 1) g1 0 0∧q.ts 5= .int .i64 (i:Int)∧q.h=D++[.blk g0 [.agg [.sl (m.map z4j) .no]] false false 0, .blk g1 [.agg [.sl (m.map z4j) .no]] false false 0]) ⟨_,_,rfl,rfl,rfl,rfl⟩ ?_ ?_
 ·rintro i hlt f1 f2 ts h clk P ⟨g0,g1,q2,q3,q5,rfl⟩ hnx he hr
  dsimp only at q2 q3 q5
  have hd:=hm _ (List.getElem_mem hlt)
  have p1:=y0g (u:= .no) (v:= .no) hd.params
  have p2:=y0f (u:= .no) (v:= .no) hd.body
  simp only[go_sem,j1e,q2,q3,q5,hB,List.length_map,f1,f2,q1i hlt,z0a p1,z0a p2,decide_true,Bool.not_true]
  exact hnx _ ⟨g0,g1,q2,q3,rfl,rfl⟩
 ·rintro f1 ts h clk P ⟨g0,g1,q2,q3,q5,rfl⟩ he hr
  dsimp only at q2 q3 q5
  simp only[go_sem,j1e,q2,q3,q5,hB,List.length_map,f1]
  refine he _ _ ?_
  simp only[go_sem,]
  rw[z0e]
  exact hT _
end Go.Proofs.YtahdahokpjigiaaGreatDoor.Am
