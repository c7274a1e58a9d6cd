/- Walking: the reference finds the transformation; its lists may be grown by the caller Walking: names to choose from; small values Walking: a transformation is chosen Walking: SliceApply Functions of t -/
import Derived.Test.YtkollgjffkdliaaGreatDoorM34
set_option linter.all false
namespace Go.Proofs.YtkollgjffkdliaaGreatDoor.Am
open Go
set_option maxRecDepth 100000
section
variable {s:Sys}
open Classical in
noncomputable def x2c (s:Sys):List (List Nat):=(names s).filter fun a=>decide (DS s a)
open Classical in
noncomputable def q6l (s:Sys):List (List Nat):=(names s).filter fun a=>decide (NS s a)
open Classical in
theorem q9f (hs:SysV s) {a:List Nat}:a∈x2c s↔DS s a:=by
 unfold x2c
 rw[List.mem_filter,decide_eq_true_iff]
 refine⟨fun h=>h.2,fun h=>⟨?_,h⟩⟩
 cases h with
 | of hc hh hb=>exact (hs.head hc).resolve_left hh
open Classical in
theorem j0w (hs:SysV s) {a:List Nat}:a∈q6l s↔NS s a:=by
 unfold q6l
 rw[List.mem_filter,decide_eq_true_iff]
 exact⟨fun h=>h.2,fun h=>⟨Need.name hs h,h⟩⟩
end
def tfA (un und:List (List Nat)) (t1 t2:Tip):AV:= .agg [.int .i64 2, .str [], .str [], .int .i64 0, .int .i64 0, .sl (z1n un) t1, .sl (z1n und) t2, .sl [] .nil]
theorem g3f {s:Sys} {h:List AObj} {clk:Nat} {Q:AV→List AObj→Nat→Prop} (hs:SysV s) (hQ:∀ (t1 t2:Tip) (o0 o1 o2 o3 o4 o5 o6:AObj) (L:List AObj) (c:Nat),TipN h.length 6 o6 t1 1→TipN h.length 4 o4 t2 1→(L=[o0,o1,o2,o3,o4,o5,o6]∨(L=[]∧t1= .nil∧t2= .nil))→Q (.tup [tfA (z2r s).un (z2r s).und t1 t2, .int .i64 0]) (h++L) c):WC Gam 36 [z2a s] h clk Q:=by
 have p28:=v7n hs
 have p46:=y7n (l0:=x2c s) hs fun a=>q9f hs
 have p47:=y7o (dl:=x2c s) (n0:=q6l s) (u:= .no) hs (fun a=>q9f hs) fun a=>j0w hs
 rw[z2a] at p28 p46 p47
 have hpl:=hs.pl
 refine v2r rfl g2w rfl rfl rfl (az:=[z2a s]) rfl (by simp[idsL,z2v]) fun D B hB hBh=> ?_
 simp only[go_sem,u9q,hB,z2a,z0a p28,z0a p46,z0a p47,Bool.not_true]
 refine z6k s.preds.length (by omega) (fun i q=>∃ (g0 g1 g2:Nat) (t1 t2:Tip) (o3 o4 o5 o6:AObj),q.ts 1= .ptr (B + 0) g0 0 0∧q.ts 2= .ptr (B + 1) g1 0 0∧q.ts 4= .ptr (B + 2) g2 0 0∧q.ts 5= .sl (z1c s.preds (x2c s)) .no∧q.ts 6= .sl (z1c s.preds (q6l s)) .no∧q.ts 7= .int .i64 (i:Int)∧q.h=D++[.blk g0 [.agg [.sl (s.preds.map z0y) .no, .sl (s.clauses.map z0h) .no]] false false 0, .blk g1 [.agg [.int .i64 0, .str [], .str [], .int .i64 0, .int .i64 0, .sl [] .nil, .sl [] .nil, .sl [] .nil]] false false 0, .blk g2 [tfA (k7o (s.preds.take i) (x2c s) (q6l s)) (x3a (s.preds.take i) (x2c s)) t1 t2] false false 0,o3,o4,o5,o6]∧TipN B 6 o6 t1 1∧TipN B 4 o4 t2 1) ⟨_,_,_, .nil, .nil,_,_,_,_,rfl,rfl,rfl,rfl,rfl,rfl,rfl, .inl rfl, .inl rfl⟩ ?_ ?_
 ·rintro i hlt f1 f2 ts h' clk' P ⟨g0,g1,g2,t1,t2,o3,o4,o5,o6,q1,q2,q4,q5,q6,q7,rfl,ht1,ht2⟩ hnx he hr
  dsimp only at q1 q2 q4 q5 q6 q7
  have htake:s.preds.take (i + 1)=s.preds.take i++[s.preds[i]]:=List.take_succ_eq_append_getElem hlt
  have hix:=fun h=>z8q (l:=s.preds) (i:=i) (h:=h) (t:= .no) (k:= .i64) hlt
  have hb1:=fun h=>x2a (ps:=s.preds) (L:=x2c s) (i:=i) (h:=h) (t:= .no) (k:= .i64) hlt
  have hb2:=fun h=>x2a (ps:=s.preds) (L:=q6l s) (i:=i) (h:=h) (t:= .no) (k:= .i64) hlt
  have hl1:=k5m (ps:=s.preds.take i) (dl:=x2c s)
  have hl2:=v1z (ps:=s.preds.take i) (dl:=x2c s) (nl:=q6l s)
  have hu1:x3a (s.preds.take (i + 1)) (x2c s)=x3a (s.preds.take i) (x2c s)++(if s.preds[i].name∈x2c s then [] else [s.preds[i].name]):=by
   unfold x3a
   rw[htake,List.map_append,List.filter_append]
   congr 1
   by_cases h:s.preds[i].name∈x2c s <;> simp[h]
  have hu2:k7o (s.preds.take (i + 1)) (x2c s) (q6l s)=k7o (s.preds.take i) (x2c s) (q6l s)++(if s.preds[i].name∈x2c s∧s.preds[i].name∉q6l s then [s.preds[i].name] else []):=by
   unfold k7o
   rw[htake,List.map_append,List.filter_append]
   congr 1
   by_cases h:s.preds[i].name∈x2c s <;> by_cases h':s.preds[i].name∈q6l s <;> simp[h,h']
  rw[List.length_take] at hl1 hl2
  generalize s.preds[i]=f at *
  by_cases hin:f.name∈x2c s
  ·rw[if_pos hin,List.append_nil] at hu1
   rw[decide_eq_true hin] at hb1
   by_cases hin2:f.name∈q6l s
   ·rw[if_neg (fun h=>h.2 hin2),List.append_nil] at hu2
    rw[decide_eq_true hin2] at hb2
    simp only[go_sem,k0k,tfA,q1,q2,q4,q5,q6,q7,hB,f1,f2,List.length_map,hix,hb1,hb2,Bool.not_true]
    exact hnx _ ⟨g0,g1,g2,t1,t2,_,_,_,_,q1,q2,q4,q5,q6,rfl,by rw[hu1,hu2];rfl,ht1,ht2⟩
   ·rw[if_pos ⟨hin,hin2⟩] at hu2
    rw[decide_eq_false hin2] at hb2
    simp only[go_sem,k0k,tfA,q1,q2,q4,q5,q6,q7,hB,f1,z1b,List.length_map,hix,hb1,hb2,Bool.not_true,Bool.not_false]
    rw[show [AV.str f.name]=z1n [f.name] from rfl,z0s hB rfl ht1.k z0m z0m (by simp only[z1n,List.length_map,List.length_singleton];omega)]
    have e8:z1n (k7o (s.preds.take i) (x2c s) (q6l s))++z1n [f.name]=z1n (k7o (s.preds.take (i + 1)) (x2c s) (q6l s)):=by rw[hu2,z1n,z1n,z1n,List.map_append]
    simp only[go_sem,q1,q2,q4,q5,q6,q7,hB,f2,e8]
    refine⟨by simp[z1e,apart,z0l,z0z,z1i,AOp.isCall,hB,AV.ids,idsL,z0q,z0d z4i], ?_⟩
    exact hnx _ ⟨g0,g1,g2,_,t2,_,_,_,_,q1,q2,q4,q5,q6,rfl,by rw[hu1];rfl, .inr ⟨_,rfl,rfl⟩,ht2⟩
  ·rw[if_neg hin] at hu1
   rw[if_neg (fun h=>hin h.1),List.append_nil] at hu2
   rw[decide_eq_false hin] at hb1
   simp only[go_sem,k0k,tfA,q1,q2,q4,q5,q6,q7,hB,f1,z1b,List.length_map,hix,hb1,hb2,Bool.not_false]
   rw[show [AV.str f.name]=z1n [f.name] from rfl,z0s hB rfl ht2.k z0m z0m (by simp only[z1n,List.length_map,List.length_singleton];omega)]
   have e8:z1n (x3a (s.preds.take i) (x2c s))++z1n [f.name]=z1n (x3a (s.preds.take (i + 1)) (x2c s)):=by rw[hu1,z1n,z1n,z1n,List.map_append]
   simp only[go_sem,q1,q2,q4,q5,q6,q7,hB,f2,e8]
   refine⟨by simp[z1e,apart,z0l,z0z,z1i,AOp.isCall,hB,AV.ids,idsL,z0q,z0d z4i], ?_⟩
   exact hnx _ ⟨g0,g1,g2,t1,_,_,_,_,_,q1,q2,q4,q5,q6,rfl,by rw[hu2];rfl,ht1, .inr ⟨_,rfl,rfl⟩⟩
 ·rintro f1 ts h' clk' P ⟨g0,g1,g2,t1,t2,o3,o4,o5,o6,q1,q2,q4,q5,q6,q7,rfl,ht1,ht2⟩ he hr
  dsimp only at q1 q2 q4 q5 q6 q7
  rw[List.take_length,v2a fun a=>q9f hs,w4n (fun a=>q9f hs) fun a=>j0w hs]
  simp only[go_sem,k0k,q1,q2,q4,q5,q6,q7,hB,f1,List.length_map]
  refine he _ _ ?_
  simp only[go_sem,tfA,q1,q2,q4,hB]
  refine⟨fun _=>by simp,[tfA (z2r s).un (z2r s).und t1 t2, .int .i64 0],_, ?_,rfl, ?_⟩
  ·simp only[go_sem,hB,tfA,z0k,z0j,z0f,q2,q4]
  subst hBh
  by_cases hids:t1= .nil∧t2= .nil
  ·obtain⟨rfl,rfl⟩:=hids
   refine .inl ⟨by simp[z1l,tfA,AV.ids,idsL,z0q], ?_⟩
   have:=hQ .nil .nil .dead .dead .dead .dead .dead .dead .dead [] clk (.inl rfl) (.inl rfl) (.inr ⟨rfl,rfl,rfl⟩)
   rwa [List.append_nil] at this
  ·refine .inr ⟨?_,hQ t1 t2 _ _ _ _ _ _ _ _ _ ht1 ht2 (.inl rfl)⟩
   rcases ht1 with rfl | ⟨g,rfl,_⟩
   ·rcases ht2 with rfl | ⟨g,rfl,_⟩
    ·exact absurd ⟨rfl,rfl⟩ hids
    ·exact⟨h.length + 4,by simp[z1l,tfA,AV.ids,idsL,z0q],by omega⟩
   ·exact⟨h.length + 6,by simp[z1l,tfA,AV.ids,idsL,z0q],by omega⟩
def q8n:List (List Nat):=[[80],[81],[82],[90],[83],[78],[]]
theorem bs7 {h:List AObj}:bsV h (.str []) 7 [0,1,2,3,4,5,6] [.str [80], .str [81], .str [82], .str [90], .str [83], .str [78], .str []]=some (.sl (z1n q8n) .full,h):=(rfl)
theorem j0x {n:Nat} (hn:n < 7) {h:List AObj} {k:IntKind}:z1p h 1 (.sl (z1n q8n) .full) (.int k (n:Int))=some (.iptr [.str (q8n[n]'hn)] 0,h):=q0c hn
theorem x7n {h:List AObj} {e n:Nat} {xs:List AV} {t:Tip} {k:IntKind} (hn:n≤xs.length) (he:z4s e xs=true):slV h (some e) (.sl xs t) (some (.int k (n:Int))) none none=some (.sl (xs.drop n) (if t= .nil then .nil else t),h):=by
 simp[slV,z2w,z5b,hn,he]
theorem j0y {l:List (List Nat)}:z4s 1 (z1n l)=true:=by cases l <;> rfl
def j0z (a:AV):Prop:=a.cv=a∧a.obs=[]∧a.one=true∧a.ids=[]
theorem SmallV.five {s:Nat} {v:AV} (h:SmallV s v):∃ a b c d e,v= .agg [a,b,c,d,e]∧j0z a∧j0z b∧j0z c∧j0z d∧j0z e:=by
 obtain⟨t,q1,q2,q3,q4,q5,q6,q7,q8⟩:=h
 clear q1 q2
 cases v <;> simp only[AV.cells,List.length_singleton] at q7 <;> try omega
 rename_i cs
 match cs,q7 with
 | [a,b,c,d,e],_=>
   simp only[AV.obs,z4r,List.append_eq_nil_iff,and_true] at q3
   simp only[AV.ids,idsL,List.append_eq_nil_iff,and_true] at q5
   simp only[AV.cv,cvL,AV.agg.injEq,List.cons.injEq,and_true] at q4
   simp only[AV.cells,List.all_cons,List.all_nil,Bool.and_true,Bool.and_eq_true] at q8
   exact⟨a,b,c,d,e,rfl,⟨q4.1,q3.1,q8.1,q5.1⟩,⟨q4.2.1,q3.2.1,q8.2.1,q5.2.1⟩,⟨q4.2.2.1,q3.2.2.1,q8.2.2.1,q5.2.2.1⟩,⟨q4.2.2.2.1,q3.2.2.2.1,q8.2.2.2.1,q5.2.2.2.1⟩,⟨q4.2.2.2.2,q3.2.2.2.2,q8.2.2.2.2,q5.2.2.2.2⟩⟩
def y9h (B j:Nat) (R:List AObj) (i:Nat) (t:Tip):Prop:=t= .nil∨∃ g,t= .at (B + j) g∧R[i]? =some (.tip g 1)
theorem u6i {D R:List AObj} {B:Nat} {t:Tip} {l m:List (List Nat)} (hB:D.length=B) (ht:y9h B 17 R 6 t) (hl:l.length + m.length≤1000):∃ R',∀ (gen:Nat) (u:Tip) (a0 a1 a2 a3 a4 a5 a6 a7 a8 a9 a10:AObj),z1k (D++a0::a1::a2::a3::a4::a5::a6::a7::a8::a9::a10::R) (B + 5) gen 1 16 false (.sl (z1n l) t) (.sl (z1n m) u)=some (.sl (z1n (l++m)) (.at (B + 5) gen),D++a0::a1::a2::a3::a4:: .tip gen 1::a6::a7::a8::a9::a10::R'):=by
 have e:z1n (l++m)=z1n l++z1n m:=List.map_append
 have hsz:((z1n l).length + (z1n m).length) * (16 + 1)≤2 ^ 46:=by simp only[z1n,List.length_map];omega
 rw[e]
 rcases ht with rfl | ⟨g,rfl,hR⟩
 ·exact⟨R,fun gen u a0 a1 a2 a3 a4 a5 a6 a7 a8 a9 a10=>z0s (k:=5) hB rfl (.inl rfl) z0m z0m hsz⟩
 ·exact⟨R.set 6 .dead,fun gen u a0 a1 a2 a3 a4 a5 a6 a7 a8 a9 a10=>q7l (j:=17) (k:=5) hB (by simpa using hR) z0m z0m hsz⟩
theorem u6j {D R:List AObj} {B:Nat} {t:Tip} {l m:List (List Nat)} (hB:D.length=B) (ht:y9h B 15 R 4 t) (hl:l.length + m.length≤1000):∃ R',∀ (gen:Nat) (u:Tip) (a0 a1 a2 a3 a4 a5 a6 a7 a8 a9 a10:AObj),z1k (D++a0::a1::a2::a3::a4::a5::a6::a7::a8::a9::a10::R) (B + 7) gen 1 16 false (.sl (z1n l) t) (.sl (z1n m) u)=some (.sl (z1n (l++m)) (.at (B + 7) gen),D++a0::a1::a2::a3::a4::a5::a6:: .tip gen 1::a8::a9::a10::R'):=by
 have e:z1n (l++m)=z1n l++z1n m:=List.map_append
 have hsz:((z1n l).length + (z1n m).length) * (16 + 1)≤2 ^ 46:=by simp only[z1n,List.length_map];omega
 rw[e]
 rcases ht with rfl | ⟨g,rfl,hR⟩
 ·exact⟨R,fun gen u a0 a1 a2 a3 a4 a5 a6 a7 a8 a9 a10=>z0s (k:=7) hB rfl (.inl rfl) z0m z0m hsz⟩
 ·exact⟨R.set 4 .dead,fun gen u a0 a1 a2 a3 a4 a5 a6 a7 a8 a9 a10=>q7l (j:=15) (k:=7) hB (by simpa using hR) z0m z0m hsz⟩
theorem g3g {s:Sys} {zs:List Int} {u:Tip} {odd:Bool} {h:List AObj} {clk:Nat} {Q:AV→List AObj→Nat→Prop} (hs:SysV s) (hz:∀ z∈zs, -9223372036854775808≤z∧z≤9223372036854775807) (hQ:∀ y,TfS y→(odd=false→y=z2r s)→Q (eTf y) h clk):WC Gam 11 [z2a s, .sl (q3x zs) u, .bool odd] h clk Q:=by
 have hl:q6z (zs.take 400):=⟨by simp;omega,fun z h=>hz z (List.mem_of_mem_take h)⟩
 have hfl:=k5x hs
 rw[List.length_append] at hfl
 have hft:TfS (z2r s):=⟨by omega,by omega,rfl⟩
 have e41:(z2r s).kind=2:=rfl
 refine q6x rfl g2x rfl rfl rfl (az:=[z2a s, .sl (q3x zs) .no, .bool odd]) rfl (by simp[idsL,z2v,AV.ids,q3r]) fun D B T hB hT=> ?_
 simp only[go_sem,u9r,hB,z2a]
 refine j5t fun g c=> ?_
 have e0:∀ x0 x1 x2 x3 x4 x5 x6 x7 x8 x9:AObj,(D++[x0,x1,x2,x3,x4,x5,x6,x7,x8,x9]).length=B + 10:=fun _ _ _ _ _ _ _ _ _ _=>by simp[hB]
 have e1:∀ x0 x1 x2 x3 x4 x5 x6 x7 x8 x9 o:AObj,(D++[x0,x1,x2,x3,x4,x5,x6,x7,x8,x9])++[o]=D++[x0,x1,x2,x3,x4,x5,x6,x7,x8,x9,o]:=fun _ _ _ _ _ _ _ _ _ _ _=>by simp
 have e2:∀ x0 x1 x2 x3 x4 x5 x6 x7 x8 x9 o:AObj,(D++[x0,x1,x2,x3,x4,x5,x6,x7,x8,x9,o]).length=B + 11:=fun _ _ _ _ _ _ _ _ _ _ _=>by simp[hB]
 rw[e0,e1]
 generalize zs.take 400=l at hl
 simp only[go_sem,hB]
 have h22:=fun h clk Q=>g3f (s:=s) (h:=h) (clk:=clk) (Q:=Q) hs
 rw[z2a] at h22
 refine z5x (h22 _ _ _ fun t1 t2 o0 o1 o2 o3 o4 o5 o6 R c2 ht1 ht2 hR=> ?_)
 rw[e2] at ht1 ht2
 have hr1:y9h B 17 R 6 t1:=by
  rcases hR with rfl | ⟨_,h,_⟩
  ·exact ht1.imp id fun ⟨g,h1,h2⟩=>⟨g,h1,by rw[h2];rfl⟩
  ·exact .inl h
 have hr2:y9h B 15 R 4 t2:=by
  rcases hR with rfl | ⟨_,_,h⟩
  ·exact ht2.imp id fun ⟨g,h1,h2⟩=>⟨g,h1,by rw[h2];rfl⟩
  ·exact .inl h
 clear ht1 ht2 hR h22 e0 e1 e2
 have fin:∀ y:Tf,TfS y→(odd=false→y=z2r s)→∀ (ta tb tc:Tip) (h':List AObj),RV [] (some [.agg [.int .i64 y.kind, .str y.pred, .str y.into, .int .i64 y.clause, .int .i64 y.atom, .sl (z1n y.un) ta, .sl (z1n y.und) tb, .sl y.drops tc]]) (fun v h'=>T v h') h':=by
  intro y hy ho ta tb tc h'
  rw[z2k rfl (by simp[AV.cv,cvL,AV.ids,idsL,z0q,hy.drops])]
  exact hT _ _ (hQ y hy ho)
 have hu:=hft.un
 have hd:=hft.und
 cases odd with
 | false=>
   simp only[go_sem,hB,tfA,List.append_assoc,Bool.not_false,z0k,z0j,z0f]
   exact fin (z2r s) hft (fun _=>rfl) _ _ _ _
 | true=>
   replace fin:=fun y hy=>fin y hy (fun h=>by cases h)
   simp only[go_sem,hB,tfA,List.append_assoc,Bool.not_true,bs7]
   refine z1w (k:=10) (z2x hl (by decide) (by decide)) hB rfl (Nat.zero_le _) ?_
   rintro v i ⟨r,rfl,hr1',hr2'⟩ hi
   have hr:r=0∨r=1∨r=2∨r=3∨r=4∨r=5∨r=6∨r=7∨r=8∨r=9:=by omega
   rcases hr with rfl | rfl | rfl | rfl | rfl | rfl | rfl | rfl | rfl | rfl
   ·simp only[go_sem,hB,decide_true,Int.reduceEq]
    refine z1w (k:=10) (z2x hl (by decide) (by decide)) hB rfl hi ?_
    rintro v i2 ⟨r,rfl,_,_⟩ hi2
    simp only[go_sem,hB,z0k,z0j,z0f]
    exact fin {z2r s with kind:=r} ⟨hu,hd,rfl⟩ _ _ _ _
   ·simp only[go_sem,hB,decide_true,decide_false,Int.reduceEq]
    refine z1w (k:=10) (z2x hl (by decide) (by decide)) hB rfl hi ?_
    rintro v i2 ⟨r,rfl,h1,h2⟩ hi2
    obtain⟨n,rfl⟩:∃ k:Nat,r=k:=⟨r.toNat,by omega⟩
    simp only[go_sem,hB,j0x (n:=n) (by omega),z0k,z0j,z0f]
    exact fin {z2r s with pred:=q8n[n]'(by show n < 7;omega)} ⟨hu,hd,rfl⟩ _ _ _ _
   ·simp only[go_sem,hB,decide_true,decide_false,Int.reduceEq]
    refine z1w (k:=10) (z2x hl (by decide) (by decide)) hB rfl hi ?_
    rintro v i2 ⟨r,rfl,h1,h2⟩ hi2
    obtain⟨n,rfl⟩:∃ k:Nat,r=k:=⟨r.toNat,by omega⟩
    simp only[go_sem,hB,j0x (n:=n) (by omega),z0k,z0j,z0f]
    exact fin {z2r s with into:=q8n[n]'(by show n < 7;omega)} ⟨hu,hd,rfl⟩ _ _ _ _
   ·simp only[go_sem,hB,decide_true,decide_false,Int.reduceEq]
    refine z1w (k:=10) (z2x hl (by decide) (by decide)) hB rfl hi ?_
    rintro v i2 ⟨r,rfl,h1,h2⟩ hi2
    simp only[go_sem,hB,z0c (n:=r - 1) (by omega) (by omega)]
    refine z1w (k:=10) (z2x hl (by decide) (by decide)) hB rfl hi2 ?_
    rintro v i3 ⟨r',rfl,h3,h4⟩ hi3
    simp only[go_sem,hB,z0c (n:=r' - 1) (by omega) (by omega),z0k,z0j,z0f]
    exact fin {z2r s with clause:=r - 1,atom:=r' - 1} ⟨hu,hd,rfl⟩ _ _ _ _
   ·simp only[go_sem,hB,decide_true,decide_false,Int.reduceEq,z1b]
    refine z1w (k:=10) (z2x hl (by decide) (by decide)) hB rfl hi ?_
    rintro v i2 ⟨r,rfl,h1,h2⟩ hi2
    obtain⟨n,rfl⟩:∃ k:Nat,r=k:=⟨r.toNat,by omega⟩
    have hix:=fun h=>j0x (n:=n) (by omega) (h:=h) (k:= .i64)
    generalize q8n[n]'(by show n < 7;omega)=nm at hix
    obtain⟨R',hap⟩:=u6i (l:=(z2r s).un) (m:=[nm]) hB hr1 (by simp;omega)
    simp only[go_sem,hB,hix]
    rw[show [AV.str nm]=z1n [nm] from rfl,hap]
    simp only[go_sem,hB,z0k,z0j,z0f]
    refine⟨by simp[z1e,apart,z0l,z0z,z1i,AOp.isCall,hB,AV.ids,idsL,z0q], ?_⟩
    exact fin {z2r s with un:=(z2r s).un++[nm]} ⟨by simp;omega,hd,rfl⟩ _ _ _ _
   ·simp only[go_sem,hB,decide_true,decide_false,Int.reduceEq,z1b]
    refine z1w (k:=10) (z2x hl (by decide) (by decide)) hB rfl hi ?_
    rintro v i2 ⟨r,rfl,h1,h2⟩ hi2
    obtain⟨n,rfl⟩:∃ k:Nat,r=k:=⟨r.toNat,by omega⟩
    have hix:=fun h=>j0x (n:=n) (by omega) (h:=h) (k:= .i64)
    generalize q8n[n]'(by show n < 7;omega)=nm at hix
    obtain⟨R',hap⟩:=u6j (l:=(z2r s).und) (m:=[nm]) hB hr2 (by simp;omega)
    simp only[go_sem,hB,hix]
    rw[show [AV.str nm]=z1n [nm] from rfl,hap]
    simp only[go_sem,hB,z0k,z0j,z0f]
    refine⟨by simp[z1e,apart,z0l,z0z,z1i,AOp.isCall,hB,AV.ids,idsL,z0q], ?_⟩
    exact fin {z2r s with und:=(z2r s).und++[nm]} ⟨hu,by simp;omega,rfl⟩ _ _ _ _
   ·simp only[go_sem,hB,decide_true,decide_false,Int.reduceEq,z1b]
    refine z1w (k:=10) (z2x hl (by decide) (by decide)) hB rfl hi ?_
    rintro v i2 ⟨r,rfl,h1,h2⟩ hi2
    obtain⟨n,rfl⟩:∃ k:Nat,r=k:=⟨r.toNat,by omega⟩
    have hix:=fun h=>j0x (n:=n) (by omega) (h:=h) (k:= .i64)
    generalize q8n[n]'(by show n < 7;omega)=nm at hix
    simp only[go_sem,hB,hix]
    refine z1w (k:=10) (z2x hl (by decide) (by decide)) hB rfl hi2 ?_
    rintro v i3 ⟨r3,rfl,_,_⟩ hi3
    simp only[go_sem,hB]
    refine z1w (k:=10) (z2x hl (by decide) (by decide)) hB rfl hi3 ?_
    rintro v i4 ⟨r4,rfl,_,_⟩ hi4
    simp only[go_sem,hB]
    refine z1w (k:=10) (z2x hl (by decide) (by decide)) hB rfl hi4 ?_
    rintro v i5 ⟨r5,rfl,h5,h6⟩ hi5
    obtain⟨m,rfl⟩:∃ k:Nat,r5=k:=⟨r5.toNat,by omega⟩
    have hw:IntKind.i64.wrap (1 + (m:Int))=((1 + m:Nat):Int):=by rw[z0c (by omega) (by omega)];omega
    simp only[go_sem,hB,hw]
    refine z1w (k:=10) (v0h (s:=1 + m) hl (by omega) (by omega)) hB rfl hi5 ?_
    rintro v i6 hv hi6
    obtain⟨a,b,c',d,e,rfl,⟨qa1,qa2,qa3,qa4⟩,⟨qb1,qb2,qb3,qb4⟩,⟨qc1,qc2,qc3,qc4⟩,⟨qd1,qd2,qd3,qd4⟩,⟨qe1,qe2,qe3,qe4⟩⟩:=hv.five
    generalize hx:AV.agg [.str nm, .int .i64 r3, .bool (decide (r4=0)),a,b,c',d,e]=w
    have hcells:z0v 8 [w]=true:=by
     subst hx
     simp[z0v,AV.def?,AV.cells,k2y,x5v,x5w,qa3,qb3,qc3,qd3,qe3]
    have hbs:∀ h,bsV h (.agg [.str [], .int .i64 0, .bool false, .int .i64 0, .bool false, .str [], .sl [] .nil, .sl [] .nil]) 1 [0] [w]=some (.sl [w] .full,h):=fun h=>by
     have hwc:w.cv=w:=by subst hx;simp[AV.cv,cvL,qa1,qb1,qc1,qd1,qe1]
     have:=y9c (h:=h) (z:= .agg [.str [], .int .i64 0, .bool false, .int .i64 0, .bool false, .str [], .sl [] .nil, .sl [] .nil]) (v:=w) rfl (by subst hx;simp[AV.obs,z4r,qa2,qb2,qc2,qd2,qe2]) (by rw[hwc];subst hx;rfl) (by rw[hwc];subst hx;rfl)
     rwa [hwc] at this
    have hwo:w.obs=[]:=by subst hx;simp[AV.obs,z4r,qa2,qb2,qc2,qd2,qe2]
    have hwi:w.ids=[]:=by subst hx;simp[AV.ids,idsL,qa4,qb4,qc4,qd4,qe4]
    simp only[go_sem,hB,hx,hbs]
    rw[append_nil (k:=9) hB rfl hcells (by simp)]
    simp only[go_sem,hB,z0k,z0j,z0f]
    refine⟨by simp[z1e,apart,z0l,z0z,z1i,AOp.isCall,hB,AV.ids,idsL,z0q,hwi,hwo], ?_⟩
    exact fin {z2r s with drops:=[w]} ⟨hu,hd,by simp[idsL,hwi]⟩ _ _ _ _
   ·simp only[go_sem,hB,decide_true,decide_false,Int.reduceEq,List.length_nil,Int.reduceLT,z0k,z0j,z0f]
    exact fin (z2r s) hft _ _ _ _
   ·by_cases hk:0 < (z2r s).un.length
    ·have hb:decide (0 < ((z2r s).un.length:Int))=true:=by rw[decide_eq_true_iff];omega
     have hsl:(z1n (z2r s).un).length=(z2r s).un.length:=List.length_map _
     simp only[go_sem,hB,decide_true,decide_false,Int.reduceEq,hsl,hb,z1b]
     refine z1w (k:=10) (z2x hl (n:=((z2r s).un.length:Int)) (by omega) (by omega)) hB rfl hi ?_
     rintro v i2 ⟨r,rfl,h1,h2⟩ hi2
     obtain⟨n,rfl⟩:∃ k:Nat,r=k:=⟨r.toNat,by omega⟩
     have hcut:=fun h=>x7n (h:=h) (n:=n) (xs:=z1n (z2r s).un) (t:=t1) (k:= .i64) (by omega) j0y
     rw[show (z1n (z2r s).un).drop n=z1n ((z2r s).un.drop n) from List.map_drop.symm] at hcut
     simp only[go_sem,hB,hcut,Option.map_none,z0k,z0j,z0f]
     refine⟨by simp[z1e,apart,z0l,z0z,z1i,AOp.isCall,hB,AV.ids,idsL,z0q], ?_⟩
     exact fin {z2r s with un:=(z2r s).un.drop n} ⟨by simp;omega,hd,rfl⟩ _ _ _ _
    ·have hb:decide (0 < ((z2r s).un.length:Int))=false:=by rw[decide_eq_false_iff_not];omega
     have hsl:(z1n (z2r s).un).length=(z2r s).un.length:=List.length_map _
     simp only[go_sem,hB,decide_true,decide_false,Int.reduceEq,hsl,hb,z0k,z0j,z0f]
     exact fin (z2r s) hft _ _ _ _
   ·have hsl:(z1n (z2r s).und).length=(z2r s).und.length:=List.length_map _
    by_cases hk:0 < (z2r s).und.length
    ·have hb:decide (0 < ((z2r s).und.length:Int))=true:=by rw[decide_eq_true_iff];omega
     have hcut:∀ h,slV h (some 1) (.sl (z1n (z2r s).und) t2) (some (.int .i64 1)) none none=some (.sl (z1n ((z2r s).und.drop 1)) (if t2= .nil then .nil else t2),h):=fun h=>by
      have:=x7n (h:=h) (n:=1) (xs:=z1n (z2r s).und) (t:=t2) (k:= .i64) (by omega) j0y
      rw[show (z1n (z2r s).und).drop 1=z1n ((z2r s).und.drop 1) from List.map_drop.symm] at this
      exact this
     simp only[go_sem,hB,decide_true,decide_false,Int.reduceEq,hsl,hb,hcut,Option.map_none,z0k,z0j,z0f]
     exact fin {z2r s with und:=(z2r s).und.drop 1} ⟨hu,by simp;omega,rfl⟩ _ _ _ _
    ·have hb:decide (0 < ((z2r s).und.length:Int))=false:=by rw[decide_eq_false_iff_not];omega
     simp only[go_sem,hB,decide_true,decide_false,Int.reduceEq,hsl,hb,z0k,z0j,z0f]
     exact fin (z2r s) hft _ _ _ _
theorem k6k:Pure Gam 10 [] (.bool true):=Pure.tab (tab:=[([], .bool true)]) rfl rfl rfl
theorem j1a {s:Sys} {x:Tf}:(z4o s x).1=x2b∨(z4o s x).1=z3x x s:=by
 cases hu:q5c x with
 | false=>rw[z7p hu];exact .inl rfl
 | true=>
   by_cases hn:q7m s x
   ·cases hk:z7k x.un x.und s.clauses 0 [] with
    | none=>rw[z7q hu hn hk];exact .inl rfl
    | some out=>rw[z9m hu hn hk];exact .inr rfl
   ·rw[z6w hu hn];exact .inl rfl
section
open Sh
set_option maxHeartbeats 0
noncomputable def q62:AFun:=(fun (a:AFun) (_:Gam.fn 97=some a)=>a) _ (by conv=>lhs;reduce;simp only[Int.reduceOfNat,Int.reduceNegSucc])
noncomputable def v2s:ACode:=(fun (a:ACode) (_:fl [] (lp q62 0)=a)=>a) _ (by conv=>lhs;reduce;simp only[Int.reduceOfNat,Int.reduceNegSucc])
attribute [local irreducible] v2s
noncomputable def u9y:AFun:=(fun (a:AFun) (_:flF [v2s] q62=a)=>a) _ (by conv=>lhs;reduce;simp only[Int.reduceOfNat,Int.reduceNegSucc])
theorem g3h:Gam.fn 97=some u9y:=by kernel_rfl
def x7o:ACode:=(.seq (.seq (.region 9 [M 26 9,A 27 2 0,L 28 27,M 29 7,N 30 (.indexAddr none 3 (.tmp 28) (.tmp 29)),A 31 30 1,L 32 31,N 33 (.len .sl (.tmp 32)),N 34 (.binOp .lss (.one .int) (.tmp 26) (.tmp 33))] []) (.cond (.tmp 34) .skip (.exit 2))) (.seq (.block 3 (.region 25 [A 37 8 1,L 38 37,N 39 (.buildSlice 4 false (.str []) 12 [(0,(.const (.str [117]))),(1,(.const (.str [118]))),(2,(.const (.str [121,48]))),(3,(.const (.str [121,49]))),(4,(.const (.str [107]))),(5,(.const (.str [109]))),(6,(.const (.str [110]))),(7,(.const (.str [111]))),(8,(.const (.str [114]))),(9,(.const (.str [115]))),(10,(.const (.str [116]))),(11,(.const (.str [104])))]),M 40 9,N 41 (.binOp .rem (.one .int) (.tmp 40) (I 12)),N 42 (.indexAddr none 1 (.tmp 39) (.tmp 41)),L 43 42,M 44 9,N 45 (.binOp .quo (.one .int) (.tmp 44) (I 12)),N 46 (.call 41 [.tmp 45]),N 47 (.binOp .add (.one .str) (.tmp 43) (.tmp 46)),A 48 2 0,L 49 48,M 50 7,N 51 (.indexAddr none 3 (.tmp 49) (.tmp 50)),A 52 51 1,L 53 52,M 54 9,N 55 (.indexAddr none 1 (.tmp 53) (.tmp 54)),L 56 55,N 57 (.build [(.str []),(.int .i64 0)] [(0,1,(.tmp 47)),(1,1,(.tmp 56))]),N 58 (.buildSlice 5 false (.agg [(.str []),(.int .i64 0)]) 1 [(0,(.tmp 57))]),N 59 (.append 6 2 24 false (.tmp 38) (.tmp 58)),A 60 8 1,S 1 60 59] [(1,2),(1,9),(2,9),(5,9),(6,9),(2,12),(9,12),(2,14),(9,14),(2,16),(9,16),(2,18),(9,18),(2,19),(9,19),(1,21)])) (.region 3 [M 35 9,N 36 (.binOp .add (.one .int) (.tmp 35) (I 1)),M 9 36] [])))
def j4f:ACode:=(.seq (.seq (.region 5 [M 12 7,A 13 2 0,L 14 13,N 15 (.len .sl (.tmp 14)),N 16 (.binOp .lss (.one .int) (.tmp 12) (.tmp 15))] []) (.cond (.tmp 16) .skip (.exit 0))) (.seq (.block 1 (.seq (.region 9 [A 19 2 0,L 20 19,M 21 7,N 22 (.indexAddr none 3 (.tmp 20) (.tmp 21)),A 23 22 0,L 24 23,N 25 (.build [(.str []),(.sl [] .nil),(.sl [] .nil)] [(0,1,(.tmp 24))]),N 8 (.alloc 3 (.agg [(.str []),(.sl [] .nil),(.sl [] .nil)])),S 3 8 25] []) (.seq (.seq (.region 1 [N 9 (.move (I 0))] []) (.block 2 (.loop x7o))) (.seq (.region 6 [M 61 5,A 62 8 1,L 63 62,N 64 (.call 42 [(.tmp 61),(I 2),(.tmp 63)]),A 65 8 2,S 1 65 64] []) (.seq (.seq (.region 3 [M 66 5,N 67 (.call 25 [(.tmp 66),(I 4)]),N 68 (.binOp .eql (.one .int) (.tmp 67) (I 0))] []) (.cond (.tmp 68) (.region 6 [M 69 5,N 70 (.call 25 [(.tmp 69),(I 3)]),N 71 (.binOp .gtr (.one .int) (.tmp 70) (I 0)),N 72 (.call 43 [.tmp 71]),A 73 8 2,S 1 73 72] []) .skip)) (.region 7 [A 74 6 0,L 75 74,N 76 (.load (some 3) (.tmp 8)),N 77 (.buildSlice 7 false (.agg [(.str []),(.sl [] .nil),(.sl [] .nil)]) 1 [(0,(.tmp 76))]),N 78 (.append 8 3 64 false (.tmp 75) (.tmp 77)),A 79 6 0,S 1 79 78] [])))))) (.region 3 [M 17 7,N 18 (.binOp .add (.one .int) (.tmp 17) (I 1)),M 7 18] [])))
def v7q:AFun:=
 {ntmps:=81,nslots:=9,results:=[.cell 4 (some 1)],byref:=[],owned:=false,
  body:=(.seq (.region 2 [N 2 (.box 0 (.tmp 0)),N 4 (.alloc 1 (.agg [(.sl [] .nil)]))] []) (.seq (.region 3 [M 10 1,N 11 (.call 15 [.tmp 10]),M 5 11] []) (.seq (.region 1 [N 6 (.alloc 2 (.agg [(.sl [] .nil)]))] []) (.seq (.seq (.region 1 [N 7 (.move (I 0))] []) (.block 0 (.loop j4f))) (.seq (.region 2 [N 80 (.load (some 1) (.tmp 6)),S 1 4 80] []) .ret)))))}
theorem y7p:Gam.fn 13=some v7q:=by kernel_rfl
noncomputable def y7q:AFun:=(fun (a:AFun) (_:Gam.fn 14=some a)=>a) _ (by conv=>lhs;reduce;simp only[Int.reduceOfNat,Int.reduceNegSucc])
noncomputable def q7n:ACode:=(fun (a:ACode) (_:fl [] (lp y7q 0)=a)=>a) _ (by conv=>lhs;reduce;simp only[Int.reduceOfNat,Int.reduceNegSucc])
attribute [local irreducible] q7n
noncomputable def j7o:AFun:=(fun (a:AFun) (_:flF [q7n] y7q=a)=>a) _ (by conv=>lhs;reduce;simp only[Int.reduceOfNat,Int.reduceNegSucc])
theorem y7r:Gam.fn 14=some j7o:=by kernel_rfl
noncomputable def v7r:AFun:=(fun (a:AFun) (_:Gam.fn 41=some a)=>a) _ (by conv=>lhs;reduce;simp only[Int.reduceOfNat,Int.reduceNegSucc])
theorem y7s:Gam.fn 41=some v7r:=by kernel_rfl
noncomputable def w5n:AFun:=(fun (a:AFun) (_:Gam.fn 44=some a)=>a) _ (by conv=>lhs;reduce;simp only[Int.reduceOfNat,Int.reduceNegSucc])
noncomputable def x2d:ACode:=(fun (a:ACode) (_:fl [] (lp w5n 1)=a)=>a) _ (by conv=>lhs;reduce;simp only[Int.reduceOfNat,Int.reduceNegSucc])
attribute [local irreducible] x2d
noncomputable def x7p:ACode:=(fun (a:ACode) (_:fl [x2d] (lp w5n 0)=a)=>a) _ (by conv=>lhs;reduce;simp only[Int.reduceOfNat,Int.reduceNegSucc])
attribute [local irreducible] x7p
noncomputable def k6l:AFun:=(fun (a:AFun) (_:flF [x7p,x2d] w5n=a)=>a) _ (by conv=>lhs;reduce;simp only[Int.reduceOfNat,Int.reduceNegSucc])
theorem y7t:Gam.fn 44=some k6l:=by kernel_rfl
noncomputable def y7u:AFun:=(fun (a:AFun) (_:Gam.fn 45=some a)=>a) _ (by conv=>lhs;reduce;simp only[Int.reduceOfNat,Int.reduceNegSucc])
noncomputable def x7q:ACode:=(fun (a:ACode) (_:fl [] (lp y7u 0)=a)=>a) _ (by conv=>lhs;reduce;simp only[Int.reduceOfNat,Int.reduceNegSucc])
attribute [local irreducible] x7q
noncomputable def v7s:AFun:=(fun (a:AFun) (_:flF [x7q] y7u=a)=>a) _ (by conv=>lhs;reduce;simp only[Int.reduceOfNat,Int.reduceNegSucc])
theorem y7v:Gam.fn 45=some v7s:=by kernel_rfl
noncomputable def y7w:AFun:=(fun (a:AFun) (_:Gam.fn 46=some a)=>a) _ (by conv=>lhs;reduce;simp only[Int.reduceOfNat,Int.reduceNegSucc])
noncomputable def x2e:ACode:=(fun (a:ACode) (_:fl [] (lp y7w 0)=a)=>a) _ (by conv=>lhs;reduce;simp only[Int.reduceOfNat,Int.reduceNegSucc])
attribute [local irreducible] x2e
noncomputable def k6m:AFun:=(fun (a:AFun) (_:flF [x2e] y7w=a)=>a) _ (by conv=>lhs;reduce;simp only[Int.reduceOfNat,Int.reduceNegSucc])
theorem y7x:Gam.fn 46=some k6m:=by kernel_rfl
noncomputable def w5o:AFun:=(fun (a:AFun) (_:Gam.fn 50=some a)=>a) _ (by conv=>lhs;reduce;simp only[Int.reduceOfNat,Int.reduceNegSucc])
noncomputable def x2f:ACode:=(fun (a:ACode) (_:fl [] (lp w5o 1)=a)=>a) _ (by conv=>lhs;reduce;simp only[Int.reduceOfNat,Int.reduceNegSucc])
attribute [local irreducible] x2f
noncomputable def x2g:ACode:=(fun (a:ACode) (_:fl [x2f] (lp w5o 0)=a)=>a) _ (by conv=>lhs;reduce;simp only[Int.reduceOfNat,Int.reduceNegSucc])
attribute [local irreducible] x2g
noncomputable def k6n:AFun:=(fun (a:AFun) (_:flF [x2g,x2f] w5o=a)=>a) _ (by conv=>lhs;reduce;simp only[Int.reduceOfNat,Int.reduceNegSucc])
theorem y7y:Gam.fn 50=some k6n:=by kernel_rfl
noncomputable def v7t:AFun:=(fun (a:AFun) (_:Gam.fn 64=some a)=>a) _ (by conv=>lhs;reduce;simp only[Int.reduceOfNat,Int.reduceNegSucc])
theorem y7z:Gam.fn 64=some v7t:=by kernel_rfl
noncomputable def v7u:AFun:=(fun (a:AFun) (_:Gam.fn 98=some a)=>a) _ (by conv=>lhs;reduce;simp only[Int.reduceOfNat,Int.reduceNegSucc])
theorem y8a:Gam.fn 98=some v7u:=by kernel_rfl
noncomputable def y8b:AFun:=(fun (a:AFun) (_:Gam.fn 104=some a)=>a) _ (by conv=>lhs;reduce;simp only[Int.reduceOfNat,Int.reduceNegSucc])
noncomputable def x7r:ACode:=(fun (a:ACode) (_:fl [] (lp y8b 0)=a)=>a) _ (by conv=>lhs;reduce;simp only[Int.reduceOfNat,Int.reduceNegSucc])
attribute [local irreducible] x7r
noncomputable def v7v:AFun:=(fun (a:AFun) (_:flF [x7r] y8b=a)=>a) _ (by conv=>lhs;reduce;simp only[Int.reduceOfNat,Int.reduceNegSucc])
theorem y8c:Gam.fn 104=some v7v:=by kernel_rfl
noncomputable def y8d:AFun:=(fun (a:AFun) (_:Gam.fn 156=some a)=>a) _ (by conv=>lhs;reduce;simp only[Int.reduceOfNat,Int.reduceNegSucc])
noncomputable def x7s:ACode:=(fun (a:ACode) (_:fl [] (lp y8d 0)=a)=>a) _ (by conv=>lhs;reduce;simp only[Int.reduceOfNat,Int.reduceNegSucc])
attribute [local irreducible] x7s
noncomputable def v7w:AFun:=(fun (a:AFun) (_:flF [x7s] y8d=a)=>a) _ (by conv=>lhs;reduce;simp only[Int.reduceOfNat,Int.reduceNegSucc])
theorem y8e:Gam.fn 156=some v7w:=by kernel_rfl
noncomputable def v7x:AFun:=(fun (a:AFun) (_:Gam.fn 161=some a)=>a) _ (by conv=>lhs;reduce;simp only[Int.reduceOfNat,Int.reduceNegSucc])
theorem y8f:Gam.fn 161=some v7x:=by kernel_rfl
noncomputable def v7y:AFun:=(fun (a:AFun) (_:Gam.fn 162=some a)=>a) _ (by conv=>lhs;reduce;simp only[Int.reduceOfNat,Int.reduceNegSucc])
theorem y8g:Gam.fn 162=some v7y:=by kernel_rfl
noncomputable def v7z:AFun:=(fun (a:AFun) (_:Gam.fn 225=some a)=>a) _ (by conv=>lhs;reduce;simp only[Int.reduceOfNat,Int.reduceNegSucc])
theorem y8h:Gam.fn 225=some v7z:=by kernel_rfl
def j4g:ACode:=(.seq (.region 1 [N 9 (.binOp .lss (.one .int) (.tmp 8) (.tmp 7))] []) (.seq (.cond (.tmp 9) .skip (.exit 0)) (.seq (.block 1 (.seq (.region 2 [M 10 8,M 5 10] []) (.seq (.region 6 [N 11 (.load (some 2) (.tmp 3)),M 12 0,M 13 5,N 14 (.indexAddr none 2 (.tmp 12) (.tmp 13)),N 15 (.load (some 2) (.tmp 14)),N 16 (.binOp .eql (.agg [.str, .int]) (.tmp 11) (.tmp 15))] []) (.cond (.tmp 16) (.seq (.region 2 [M 17 5,M 4 17] []) .ret) .skip)))) (.region 2 [N 18 (.binOp .add (.one .int) (.tmp 8) (I 1)),M 8 18] []))))
def v8a:AFun:=
 {ntmps:=19,nslots:=1,results:=[.tmp 4],byref:=[],owned:=false,
  body:=(.seq (.region 2 [N 3 (.box 0 (.tmp 1)),N 4 (.move (I 0))] []) (.seq (.seq (.region 3 [M 6 0,N 7 (.len .sl (.tmp 6)),N 8 (.move (I 0))] []) (.block 0 (.loop j4g))) (.seq (.region 1 [N 4 (.move (I (-1)))] []) .ret)))}
theorem y8i:Gam.fn 228=some v8a:=by kernel_rfl
end
structure Def where
 pred:List Nat
 params:List Var
 body:Term
def z6x (d:Def):AV:= .agg [.str d.pred, .sl (d.params.map z1h) .no, .sl (d.body.map eNode) .no]
def q2a (m:List Def):AV:= .agg [.sl (m.map z6x) .no]
theorem z8f (d:Def):(z6x d).ids=[]:=by simp[z6x,AV.ids,idsL,z0d z2z,z0d z2i]
theorem q7o (m:List Def):(q2a m).ids=[]:=by simp[q2a,AV.ids,idsL,z0d z8f]
theorem z5a {l:List Def}:z0v 3 (l.map z6x)=true:=z2t fun _=>⟨rfl,rfl,rfl⟩
theorem x2h {l:List Def} {i:Nat} {h:List AObj} {t:Tip} {k:IntKind} (hi:i < l.length):z1p h 3 (.sl (l.map z6x) t) (.int k (i:Int))=some (.iptr [.str l[i].pred, .sl (l[i].params.map z1h) .no, .sl (l[i].body.map eNode) .no] 0,h):=z2d hi rfl rfl
structure DefS (d:Def):Prop where
 params:d.params.length≤20000
 body:d.body.length≤20000
theorem v2t {d:Def} {u v:Tip} (hd:DefS d):Pure Gam 64 [.agg [.str d.pred, .sl (d.params.map z1h) u, .sl (d.body.map eNode) v]] (z6x d):=by
 have h1:=hd.params
 have h2:=hd.body
 refine Pure.of rfl y7z rfl rfl rfl (az:=[z6x d]) rfl (by simp[idsL,z8f]) fun D B clk T hB hT=> ?_
 simp only[go_sem,v7t,hB,z6x,z1b,z0a (v7i (xs:=d.params) (t:= .no) (by omega)),z0a (k5w (xs:=d.body) (t:= .no) (by omega)),z0k,z0j,z0f]
 refine⟨by simp[z1e,apart,z0l,z0z,z1i,AOp.isCall,hB], ?_⟩
 rw[z2k rfl (by simp[AV.cv,cvL,AV.ids,idsL,z0d z2z,z0d z2i])]
 exact hT _
theorem v2u {m:List Def} (hl:m.length≤1000) (hm:∀ d∈m,DefS d):Pure Gam 45 [q2a m] (q2a m):=by
 refine Pure.of rfl y7v rfl rfl rfl (az:=[q2a m]) rfl (by simp[idsL,q7o]) fun D B clk T hB hT=> ?_
 simp only[go_sem,v7s,hB,q2a,List.length_map]
 refine z6k m.length (by omega) (fun i q=>∃ (g0 g1 g2:Nat) (t:Tip) (o3 o4 o5:AObj),q.ts 1= .ptr (B + 0) g0 0 0∧q.ts 2= .ptr (B + 1) g1 0 0∧q.ts 3= .ptr (B + 2) g2 0 0∧q.ts 7= .sl (m.map z6x) .no∧q.ts 8= .int .i64 (m.length:Int)∧q.ts 9= .int .i64 (i:Int)∧q.h=D++[.blk g0 [.agg [.sl (m.map z6x) .no]] false false 0, .blk g1 [.agg [.sl [] .nil]] false false 0, .blk g2 [.agg [.sl ((m.take i).map z6x) t]] false false 0,o3,o4,o5]∧z9p B 5 o5 t 3) ⟨_,_,_, .nil,_,_,_,rfl,rfl,rfl,rfl,rfl,rfl,rfl, .inl rfl⟩ ?_ ?_
 ·rintro i hlt f1 f2 ts h clk P ⟨g0,g1,g2,t,o3,o4,o5,q1,q2,q3,q7,q8,q9,rfl,ht⟩ hnx he hr
  dsimp only at q1 q2 q3 q7 q8 q9
  have hix:=fun h=>x2h (l:=m) (i:=i) (h:=h) (t:= .no) (k:= .i64) hlt
  have e8:(m.take i).map z6x++[m[i]].map z6x=(m.take (i + 1)).map z6x:=by rw[List.take_succ_eq_append_getElem hlt,List.map_append]
  have hp:=v2t (u:= .no) (v:= .no) (hm _ (List.getElem_mem hlt))
  rw[z6x] at hp
  generalize m[i]=d at *
  simp only[go_sem,x7q,q1,q2,q3,q7,q8,q9,hB,z1b,f1,hix,z0a hp]
  rw[show [AV.agg [.str d.pred, .sl (d.params.map z1h) .no, .sl (d.body.map eNode) .no]]=[d].map z6x from rfl,z0s hB rfl ht z5a z5a (by simp only[List.length_map,List.length_singleton,List.length_take];omega),e8]
  simp only[go_sem,q1,q2,q3,q7,q8,q9,hB,f2]
  refine⟨by simp[z1e,apart,z0l,z0z,z1i,AOp.isCall,hB,AV.ids,idsL,z0d z8f,z0d z2z,z0d z2i], ?_⟩
  exact hnx _ ⟨g0,g1,g2,_,_,_,_,q1,q2,q3,q7,q8,rfl,rfl, .inr (.inr ⟨_,rfl,rfl⟩)⟩
 ·rintro f1 ts h clk P ⟨g0,g1,g2,t,o3,o4,o5,q1,q2,q3,q7,q8,q9,rfl,ht⟩ he hr
  dsimp only at q1 q2 q3 q7 q8 q9
  rw[List.take_length]
  simp only[go_sem,x7q,q1,q2,q3,q7,q8,q9,hB,f1]
  refine he _ _ ?_
  simp only[go_sem,q1,q2,q3,hB,z0k,z0j,z0f]
  rw[z2k rfl (by simp[AV.cv,cvL,AV.ids,idsL,z0d z8f])]
  exact hT _
theorem v2v {n:Nat} (h1:1≤n) (h2:n≤4):Pure Gam 225 [.int .i64 (n:Int)] (.bool true):=by
 refine Pure.of rfl y8h rfl rfl rfl rfl rfl fun D B clk T hB hT=> ?_
 have e1:decide ((1:Int)≤(n:Int))=true:=by rw[decide_eq_true_iff];omega
 have e2:decide ((n:Int)≤4)=true:=by rw[decide_eq_true_iff];omega
 simp only[go_sem,v7z,e1,e2]
 rw[z0e]
 exact hT _
theorem v2w {V:List Var} {u:Tip} (hV:UOk V) (hnd:(V.map (·.name)).Nodup) (hl:V.length≤1000):Pure Gam 156 [.sl (V.map z1h) u] (.bool true):=by
 refine Pure.of rfl y8e rfl rfl rfl (az:=[.sl (V.map z1h) .no]) rfl (by simp[idsL,AV.ids,z0d z2z]) fun D B clk T hB hT=> ?_
 simp only[go_sem,v7w,hB,List.length_map]
 refine z6k V.length (by omega) (fun i q=>∃ (g:Nat) (o:AObj),q.ts 3= .mp (B + 0) g∧q.ts 7= .sl (V.map z1h) .no∧q.ts 8= .int .i64 (V.length:Int)∧q.ts 9= .int .i64 (i:Int)∧q.h=D++[.map g (z3i ((V.take i).map (·.name))),o]) ⟨_,_,rfl,rfl,rfl,rfl,rfl⟩ ?_ ?_
 ·rintro i hlt f1 f2 ts h clk P ⟨g,o,q3,q7,q8,q9,rfl⟩ hnx he hr
  dsimp only at q3 q7 q8 q9
  have hv:=List.getElem_mem hlt
  have hix:∀ h,z1p h 2 (.sl (V.map z1h) .no) (.int .i64 (i:Int))=some (.iptr [.str V[i].name, .int .i64 (V[i].sort:Int)] 0,h):=fun h=>z2d hlt rfl rfl
  have htake:V.take (i + 1)=V.take i++[V[i]]:=List.take_succ_eq_append_getElem hlt
  have hnew:V[i].name∉(V.take i).map (·.name):=by
   have h3:((V.take (i + 1)).map (·.name)).Nodup:=hnd.sublist ((List.take_sublist _ _).map _)
   rw[htake,List.map_append,List.nodup_append] at h3
   exact fun hc=>h3.2.2 _ hc _ (by simp) rfl
  have hsort:=hV.sort _ hv
  haveI:=hV
  have p1:=j3r (U:=V) hv
  have p2:=v2v hsort.1 hsort.2
  have hnm:z3i ((V.take (i + 1)).map (·.name))=z3i ((V.take i).map (·.name)++[V[i].name]):=by rw[htake,List.map_append];rfl
  generalize V[i]=v at *
  have hmu:∀ L:List AObj,z5q L 0 g=some (z3i ((V.take i).map (·.name)))→muV (D++L) (.one .str) (.str v.name) (.bool true) (.mp (B + 0) g)=some (.undef,D++L.set 0 (.map g (z3i ((V.take (i + 1)).map (·.name))))):=fun L hL=>by
   rw[hnm]
   exact j0n (v:= .bool true) hB hL rfl (q3v hnew)
  simp only[go_sem,x7s,q3,q7,q8,q9,f1,hB,hix,z3v,q3e,hnew,z5p,z0a p1,Bool.not_true,z0a p2,hmu,f2]
  exact hnx _ ⟨g,_,q3,q7,q8,rfl,rfl⟩
 ·rintro f1 ts h clk P ⟨g,o,q3,q7,q8,q9,rfl⟩ he hr
  dsimp only at q3 q7 q8 q9
  simp only[go_sem,x7s,q3,q7,q8,q9,f1]
  refine he _ _ ?_
  simp only[go_sem,]
  rw[z0e]
  exact hT _
theorem v8b {h:List AObj} {v w:Var}:z7j h .eql (.agg [.str, .int]) (.agg [.str v.name, .int .i64 (v.sort:Int)]) (.agg [.str w.name, .int .i64 (w.sort:Int)])=some (.bool (decide (v=w)),h):=by
 obtain⟨a,x⟩:=v
 obtain⟨b,y⟩:=w
 by_cases h1:a=b <;> by_cases h2:x=y <;> simp[z7j,z4q,AV.eqv,eqL,AV.eq1,h1,h2] <;> omega
theorem v2x {V:List Var} {v:Var} {u:Tip} (hl:V.length≤2 ^ 20) (hv:v∈V):∃ r:Nat,Pure Gam 228 [.sl (V.map z1h) u,z1h v] (.int .i64 (r:Int)):=by
 obtain⟨r,hr0,hat,hne⟩:∃ r,∃ h:r < V.length,V[r]=v∧∀ i (h:i < V.length),i < r→V[i]≠v:=by
  have hr0:V.findIdx (fun w=>decide (w=v)) < V.length:=List.findIdx_lt_length_of_exists ⟨v,hv,by simp⟩
  refine⟨_,hr0, ?_,fun i h hi=> ?_⟩
  ·have:=List.findIdx_getElem (w:=hr0)
   simpa using this
  ·have:=List.not_of_lt_findIdx hi
   simpa using this
 refine⟨r,Pure.of rfl y8i rfl rfl rfl (az:=[.sl (V.map z1h) .no,z1h v]) rfl (by simp[idsL,AV.ids,z0d z2z,z2z]) fun D B clk T hB hT=> ?_⟩
 simp only[go_sem,v8a,hB,z1h,nat,List.length_map]
 refine z6k V.length (by omega) (fun i q=>∃ g:Nat,i≤r∧q.ts 0= .sl (V.map z1h) .no∧q.ts 3= .ptr (B + 0) g 0 0∧q.ts 7= .int .i64 (V.length:Int)∧q.ts 8= .int .i64 (i:Int)∧q.h=D++[.blk g [.agg [.str v.name, .int .i64 (v.sort:Int)]] false false 0]) ⟨_,by omega,rfl,rfl,rfl,rfl,rfl⟩ ?_ ?_
 ·rintro i hlt f1 f2 ts h clk P ⟨g,hi,q0,q3,q7,q8,rfl⟩ hnx he hr
  dsimp only at q0 q3 q7 q8
  have hix:∀ h,z1p h 2 (.sl (V.map z1h) .no) (.int .i64 (i:Int))=some (.iptr [.str V[i].name, .int .i64 (V[i].sort:Int)] 0,h):=fun h=>z2d hlt rfl rfl
  by_cases hir:i=r
  ·subst hir
   rw[hat] at hix
   simp only[go_sem,j4g,q0,q3,q7,q8,hB,f1,hix,v8b,decide_true]
   refine hr _ ?_
   simp only[go_sem,]
   rw[z2l]
   exact hT _
  ·have hn:=hne i hlt (by omega)
   have e2:decide (v=V[i])=false:=by rw[decide_eq_false_iff_not];exact fun e=>hn e.symm
   generalize V[i]=w at hix e2
   simp only[go_sem,j4g,q0,q3,q7,q8,hB,f1,f2,hix,v8b,e2]
   exact hnx _ ⟨g,by omega,q0,q3,q7,rfl,rfl⟩
 ·rintro f1 ts h clk P ⟨g,hi,_⟩ he hr
  omega
theorem v2y {V:List Var} {v:Var} {u:Tip} (hl:V.length≤2 ^ 20) (hv:v∈V):Pure Gam 162 [.sl (V.map z1h) u,z1h v] (.bool true):=by
 obtain⟨r,hp⟩:=v2x (u:= .no) hl hv
 rw[z1h,nat] at hp
 refine Pure.of rfl y8g rfl rfl rfl (az:=[.sl (V.map z1h) .no,z1h v]) rfl (by simp[idsL,AV.ids,z0d z2z,z2z]) fun D B clk T hB hT=> ?_
 have e1:decide ((0:Int)≤(r:Int))=true:=by rw[decide_eq_true_iff];omega
 simp only[go_sem,v7y,hB,z1h,nat,z0a hp,e1]
 rw[z0e]
 exact hT _
structure DefOk (d:Def):Prop where
 u:UOk d.params
 nd:(d.params.map (·.name)).Nodup
 len:d.params.length≤20
 wf:GT d.params 1 8 2000 d.body
theorem DefOk.s {d:Def} (h:DefOk d):DefS d:=⟨by have:=h.len;omega,by have:=h.wf.2.1;omega⟩
theorem k6o {s g:Nat} {d:Def} {v:Var} (hd:DefOk d) (hv:v∈d.params):Reads [(s, .blk g [z6x d] false false 0)] 161 [z1h v, .ptr s g 0 0] (.bool false):=by
 have p2:=v2y (u:= .no) (by have:=hd.len;omega) hv
 rw[z1h,nat] at p2
 refine Reads.of rfl y8f rfl rfl rfl (az:=[z1h v, .ptr s g 0 0]) rfl (by simpa [idsL,AV.ids,z2z] using Cov.one (s:=s) (o:= .blk g [z6x d] false false 0) (by simp[AObj.ids,idsL,z8f])) fun D B clk T hB hS hlt hT=> ?_
 have h1:=hlt (s, .blk g [z6x d] false false 0) (by simp)
 have b1:=z5m (g:=g) (hS (s, .blk g [z6x d] false false 0) (by simp))
 dsimp only at h1 b1
 rw[z6x] at b1
 simp only[go_sem,v7x,hB,z1h,nat,z3m hB h1,b1,z0a p2,Bool.not_true]
 rw[z0e]
 exact hT _ hS.app
theorem v2z {d:Def} (hd:DefOk d):Pure Gam 98 [z6x d] (.bool true):=by
 haveI:=hd.u
 have hbl:=hd.wf.2.1
 have hpl:=hd.len
 have p0:=v2w (u:= .no) hd.u hd.nd (by omega)
 have p1:=k5e (U:=d.params) (u:= .no) hd.wf.1 (fun v h=>h) (by omega) (by omega)
 have p2:=k5f (U:=d.params) (u:= .no) hd.wf.1 (fun v h=>h) (by omega) (by omega)
 have p3:=k5g (U:=d.params) (u:= .no) hd.wf.1 (fun v h=>h) (by omega) (by omega)
 rw[nat] at p1
 have hvl:(z3a d.body []).length≤2 ^ 20:=by
  have:=q1c (t:=d.body) (acc:=[])
  simp only[List.length_nil] at this
  omega
 have hr:∀ s g,Reads [(s, .blk g [z6x d] false false 0)] 159 [.sl ((z3a d.body []).map z1h) .no, .fn 161 [.ptr s g 0 0]] (.bool ((z3a d.body []).any fun _=>false)):=fun s g=>
  j6u (enc:=z1h) (P:=fun _=>false) (fun _=>rfl) (fun _ _=>rfl) (fun _=>rfl) hvl (by simpa [idsL,AV.ids] using Cov.one (s:=s) (o:= .blk g [z6x d] false false 0) (by simp[AObj.ids,idsL,z8f])) fun v hv=>k6o hd (q1b hd.wf.1.names (acc:=[]) (by simp) v hv)
 have e:((z3a d.body []).any fun _=>false)=false:=by simp
 rw[e] at hr
 refine Pure.of rfl y8a rfl rfl rfl (az:=[z6x d]) rfl (by simp[idsL,z8f]) fun D B clk T hB hT=> ?_
 have hh:∀ g,Has [(B + 0, .blk g [z6x d] false false 0)] (D++[.blk g [.agg [.str d.pred, .sl (d.params.map z1h) .no, .sl (d.body.map eNode) .no]] false false 0]):=fun g=>x6t hB rfl
 simp only[go_sem,v7u,hB,z6x,z0a p0,z0a p1,z0a p2,z0a p3,Bool.not_true,Int.cast_ofNat_Int,decide_true,Int.reduceLT,decide_false,List.length_nil]
 rw[z0x (hr _ _) (hh _)]
 simp only[go_sem,Bool.not_false]
 rw[z0e]
 exact hT _
theorem y8j {l:List Nat} {u v:Tip} (hl:l.length≤20000):Pure Gam 97 [.sl (l.map nat) u, .sl (l.map nat) v] (.bool true):=by
 refine Pure.of rfl g3h rfl rfl rfl (az:=[.sl (l.map nat) .no, .sl (l.map nat) .no]) rfl (by simp[idsL,AV.ids,z0d (fun _=>z3h)]) fun D B clk T hB hT=> ?_
 simp only[go_sem,u9y,hB,List.length_map,decide_true,Bool.not_true]
 refine z6k l.length (by omega) (fun i q=>q.ts 0= .sl (l.map nat) .no∧q.ts 1= .sl (l.map nat) .no∧q.ts 12= .int .i64 (l.length:Int)∧q.ts 13= .int .i64 (i:Int)) ⟨rfl,rfl,rfl,rfl⟩ ?_ ?_
 ·rintro i hlt f1 f2 ts h clk P ⟨q0,q1,q12,q13⟩ hnx he hr
  dsimp only at q0 q1 q12 q13
  simp only[go_sem,v2s,q0,q1,q12,q13,hB,f1,f2,x0w hlt,nat,decide_true,Bool.not_true]
  exact hnx _ ⟨q0,q1,q12,rfl⟩
 ·rintro f1 ts h clk P ⟨q0,q1,q12,q13⟩ he hr
  dsimp only at q0 q1 q12 q13
  simp only[go_sem,v2s,q0,q1,q12,q13,hB,f1]
  refine he _ _ ?_
  simp only[go_sem,]
  rw[z0e]
  exact hT _
def q2g:List (List Nat):=[[117],[118],[121,48]]
theorem y8k:∀ n∈q2g,q0d q9l [.str n]=some (.bool true):=fun n hn=>by
 simp only[q2g,List.mem_cons,List.not_mem_nil,or_false] at hn
 rcases hn with rfl | rfl | rfl <;> rfl
theorem w5p:∀ n∈q2g,q0d q2k [.str n]=some (.bool true):=fun n hn=>by
 simp only[q2g,List.mem_cons,List.not_mem_nil,or_false] at hn
 rcases hn with rfl | rfl | rfl <;> rfl
def z4c (f:Func):List Var:=List.zipWith (fun n s=>⟨n,s⟩) q2g f.args
theorem x5b:∀ f∈allPreds,UOk (z4c f)∧((z4c f).map (·.name)).Nodup∧(z4c f).length≤3∧(z4c f).map (·.sort)=f.args:=by
 intro f hf
 have key:∀ V:List Var,(∀ v∈V,v.name∈q2g∧1≤v.sort∧v.sort≤4)→(∀ v∈V,∀ w∈V,v.name=w.name→v=w)→UOk V:=fun V h1 h2=>⟨fun v hv=>y8k _ (h1 v hv).1,fun v hv=>w5p _ (h1 v hv).1,fun v hv=>(h1 v hv).2,h2⟩
 simp only[allPreds,List.mem_cons,List.not_mem_nil,or_false] at hf
 rcases hf with rfl | rfl | rfl | rfl | rfl | rfl <;> exact⟨key _ (by decide) (by decide),by decide,by decide,rfl⟩
theorem j7p:∀ f∈allPreds,∀ g∈allPreds,f.name=g.name→f=g:=by decide
theorem v3a:∀ f∈allPreds,q0d q2k [.str f.name]=some (.bool true):=fun f hf=>by
 simp only[allPreds,List.mem_cons,List.not_mem_nil,or_false] at hf
 rcases hf with rfl | rfl | rfl | rfl | rfl | rfl <;> rfl
def DOk (d:Def):Prop:=∃ f∈allPreds,d.pred=f.name∧d.params=z4c f∧GT d.params 1 8 2000 d.body
def u9z (d:Def):Prop:=DOk d∧GT d.params 1 6 396 d.body
theorem DOk.ok {d:Def} (h:DOk d):DefOk d:=by
 obtain⟨f,hf,_,hp,hg⟩:=h
 obtain⟨h1,h2,h3,_⟩:=x5b f hf
 exact⟨by rw[hp];exact h1,by rw[hp];exact h2,by rw[hp];omega,hg⟩
theorem DOk.at {d:Def} {f:Func} (h:DOk d) (hf:f∈allPreds) (he:d.pred=f.name):d.params=z4c f∧d.params.map (·.sort)=f.args:=by
 obtain⟨g,hg,hn,hp,_⟩:=h
 obtain rfl:=j7p g hg f hf (by rw[←hn,he])
 exact⟨hp,by rw[hp];exact (x5b g hg).2.2.2⟩
def DAt (d:Def):Prop:=∃ f∈allPreds,d.pred=f.name∧d.params.map (·.sort)=f.args∧DefOk d
theorem DAt.ok {d:Def} (h:DAt d):DefOk d:=by
 obtain⟨_,_,_,_,h⟩:=h
 exact h
theorem DAt.at {d:Def} {f:Func} (h:DAt d) (hf:f∈allPreds) (he:d.pred=f.name):True∧d.params.map (·.sort)=f.args:=by
 obtain⟨g,hg,hn,hs,_⟩:=h
 obtain rfl:=j7p g hg f hf (by rw[←hn,he])
 exact⟨trivial,hs⟩
theorem DOk.dat {d:Def} (h:DOk d):DAt d:=by
 have h':=h
 obtain⟨f,hf,hn,_⟩:=h'
 exact⟨f,hf,hn,(h.at hf hn).2,h.ok⟩
def z7i (s:Sys) (m:List Def):Bool:=decide (m.map (·.pred)=s.preds.map (·.name))
theorem x5c {s:Sys} {m:List Def} (h:m.length≠s.preds.length):z7i s m=false:=by
 unfold z7i
 rw[decide_eq_false_iff_not]
 intro e
 have:=congrArg List.length e
 simp at this
 exact h this
theorem j1b {s:Sys} {m:List Def} {i:Nat} (h1:i < m.length) (h2:i < s.preds.length) (h:m[i].pred≠s.preds[i].name):z7i s m=false:=by
 unfold z7i
 rw[decide_eq_false_iff_not]
 intro e
 have:=congrArg (fun l=>l[i]?) e
 simp[h1,h2] at this
 exact h this
theorem v3b {s:Sys} {m:List Def} (hs:SysV s) (hm:∀ d∈m,DOk d) (hl:m.length≤1000):Pure Gam 44 [z2a s,q2a m] (.bool (z7i s m)):=by
 have p31:=k5l hs
 rw[z2a] at p31
 have hpl:=hs.pl
 refine Pure.of rfl y7t rfl rfl rfl (az:=[z2a s,q2a m]) rfl (by simp[idsL,z2v,q7o]) fun D B clk T hB hT=> ?_
 by_cases hlen:m.length=s.preds.length
 ·have e1:decide ((m.length:Int)=(s.preds.length:Int))=true:=by rw[decide_eq_true_iff];omega
  simp only[go_sem,k6l,hB,z2a,q2a,z0a p31,Bool.not_true,List.length_map,e1]
  refine z6k m.length (by omega) (fun i q=>∃ (g0 g1:Nat) (o2 o3 o4 o5 o6:AObj),(m.take i).map (·.pred)=(s.preds.take i).map (·.name)∧q.ts 2= .ptr (B + 0) g0 0 0∧q.ts 3= .ptr (B + 1) g1 0 0∧q.ts 24= .sl (m.map z6x) .no∧q.ts 25= .int .i64 (m.length:Int)∧q.ts 26= .int .i64 (i:Int)∧q.h=D++[.blk g0 [.agg [.sl (s.preds.map z0y) .no, .sl (s.clauses.map z0h) .no]] false false 0, .blk g1 [.agg [.sl (m.map z6x) .no]] false false 0,o2,o3,o4,o5,o6]) ⟨_,_,_,_,_,_,_,by simp,rfl,rfl,rfl,rfl,rfl,rfl⟩ ?_ ?_
  ·rintro i hlt f1 f2 ts h clk P ⟨g0,g1,o2,o3,o4,o5,o6,hpre,q2,q3,q24,q25,q26,rfl⟩ hnx he hr
   dsimp only at q2 q3 q24 q25 q26
   have hlt2:i < s.preds.length:=by omega
   have hixd:=fun h=>x2h (l:=m) (i:=i) (h:=h) (t:= .no) (k:= .i64) hlt
   have hixf:=fun h=>z8q (l:=s.preds) (i:=i) (h:=h) (t:= .no) (k:= .i64) hlt2
   have hd:=hm _ (List.getElem_mem hlt)
   have hf:=hs.preds.mem (List.getElem_mem hlt2)
   have htk:(m.take (i + 1)).map (·.pred)=(m.take i).map (·.pred)++[m[i].pred]:=by rw[List.take_succ_eq_append_getElem hlt,List.map_append];rfl
   have htk2:(s.preds.take (i + 1)).map (·.name)=(s.preds.take i).map (·.name)++[s.preds[i].name]:=by rw[List.take_succ_eq_append_getElem hlt2,List.map_append];rfl
   have hbad:=j1b (s:=s) (m:=m) hlt hlt2
   have p1037:=v2z hd.ok
   rw[z6x] at p1037
   have hdl:=hd.ok.len
   generalize m[i]=d at *
   generalize s.preds[i]=f at *
   simp only[go_sem,x7p,q2,q3,q24,q25,q26,hB,f1,hixd,hixf,List.length_map]
   refine z6k d.params.length (by omega) (fun k q=>∃ (ga gb:Nat) (t:Tip) (o4 o5 o6:AObj),q.ts 2= .ptr (B + 0) g0 0 0∧q.ts 3= .ptr (B + 1) g1 0 0∧q.ts 6= .ptr (B + 2) ga 0 0∧q.ts 7= .ptr (B + 3) gb 0 0∧q.ts 8= .sl (((d.params.take k).map (·.sort)).map nat) t∧q.ts 24= .sl (m.map z6x) .no∧q.ts 25= .int .i64 (m.length:Int)∧q.ts 26= .int .i64 (i:Int)∧q.ts 37= .sl (d.params.map z1h) .no∧q.ts 38= .int .i64 (d.params.length:Int)∧q.ts 39= .int .i64 (k:Int)∧q.h=D++[.blk g0 [.agg [.sl (s.preds.map z0y) .no, .sl (s.clauses.map z0h) .no]] false false 0, .blk g1 [.agg [.sl (m.map z6x) .no]] false false 0, .blk ga [.agg [.str d.pred, .sl (d.params.map z1h) .no, .sl (d.body.map eNode) .no]] false false 0, .blk gb [.agg [.str f.name, .sl (f.args.map nat) .no, .int .i64 (f.result:Int)]] false false 0,o4,o5,o6]∧z9p B 6 o6 t 1) ⟨_,_, .nil,_,_,_,by simp[z0b,q2],by simp[z0b,q3],rfl,rfl,rfl,by simp[z0b,q24],by simp[z0b,q25],by simp[z0b,q26],rfl,rfl,rfl,rfl, .inl rfl⟩ ?_ ?_
   ·clear q2 q3 q24 q25 q26 f1
    rintro k hkl f1 f2' ts h clk P' ⟨ga,gb,t,o4,o5,o6,q2,q3,q6,q7,q8,q24,q25,q26,q37,q38,q39,rfl,ht⟩ hnx' he' hr'
    dsimp only at q2 q3 q6 q7 q8 q24 q25 q26 q37 q38 q39
    have hix:∀ h,z1p h 2 (.sl (d.params.map z1h) .no) (.int .i64 (k:Int))=some (.iptr [.str d.params[k].name, .int .i64 (d.params[k].sort:Int)] 0,h):=fun h=>z2d hkl rfl rfl
    have e8:((d.params.take k).map (·.sort)).map nat++[d.params[k].sort].map nat=((d.params.take (k + 1)).map (·.sort)).map nat:=by rw[List.take_succ_eq_append_getElem hkl,List.map_append,List.map_append];rfl
    generalize d.params[k]=v at *
    simp only[go_sem,x2d,q2,q3,q6,q7,q8,q24,q25,q26,q37,q38,q39,hB,f1,hix]
    rw[show [AV.int .i64 (v.sort:Int)]=[v.sort].map nat from rfl,z0s hB rfl ht z4l z4l (by simp only[List.length_map,List.length_singleton,List.length_take];omega),e8]
    simp only[go_sem,q2,q3,q6,q7,q8,q24,q25,q26,q37,q38,q39,hB,f2']
    exact hnx' _ ⟨ga,gb,_,_,_,_,q2,q3,q6,q7,rfl,q24,q25,q26,q37,q38,rfl,rfl, .inr (.inr ⟨_,rfl,rfl⟩)⟩
   ·clear q2 q3 q24 q25 q26 f1
    rintro f1 ts h clk P' ⟨ga,gb,t,o4,o5,o6,q2,q3,q6,q7,q8,q24,q25,q26,q37,q38,q39,rfl,ht⟩ he' hr'
    dsimp only at q2 q3 q6 q7 q8 q24 q25 q26 q37 q38 q39
    rw[List.take_length] at q8
    simp only[go_sem,x2d,q2,q3,q6,q7,q8,q24,q25,q26,q37,q38,q39,hB,f1]
    refine he' _ _ ?_
    by_cases hname:d.pred=f.name
    ·obtain⟨_,hsorts⟩:=hd.at hf hname
     rw[hsorts] at q8
     have p62:=y8j (l:=f.args) (u:=t) (v:= .no) (by have:=hs.pr;have:=congrArg List.length hsorts;simp at this;omega)
     have en:decide (d.pred=f.name)=true:=decide_eq_true hname
     simp only[go_sem,q2,q3,q6,q7,q8,q24,q25,q26,hB,en,Bool.not_true,z0a p62,z0a p1037,f2]
     exact hnx _ ⟨g0,g1,_,_,_,_,_,by rw[htk,htk2,hpre,hname],q2,q3,q24,q25,rfl,rfl⟩
    ·have en:decide (d.pred=f.name)=false:=decide_eq_false hname
     rw[hbad hname] at hT
     simp only[go_sem,q2,q3,q6,q7,q8,q24,q25,q26,hB,en,Bool.not_false]
     refine hr _ ?_
     simp only[go_sem,]
     rw[z0e]
     exact hT _
  ·rintro f1 ts h clk P ⟨g0,g1,o2,o3,o4,o5,o6,hpre,q2,q3,q24,q25,q26,rfl⟩ he hr
   dsimp only at q2 q3 q24 q25 q26
   rw[List.take_length,hlen,List.take_length] at hpre
   rw[show z7i s m=true from decide_eq_true hpre] at hT
   simp only[go_sem,x7p,q2,q3,q24,q25,q26,hB,f1]
   refine he _ _ ?_
   simp only[go_sem,]
   rw[z0e]
   exact hT _
 ·have e1:decide ((m.length:Int)=(s.preds.length:Int))=false:=by rw[decide_eq_false_iff_not];omega
  rw[x5c hlen] at hT
  simp only[go_sem,k6l,hB,z2a,q2a,z0a p31,Bool.not_true,Bool.not_false,List.length_map,e1]
  rw[z0e]
  exact hT _
theorem j7q {n:List Nat} (h:q0d q2k [.str n]=some (.bool true)):Pure Gam 168 [.str n] (.bool true):=Pure.tab (tab:=q2k) rfl rfl h
theorem k6p {V:List Var} {i:Nat} {h:List AObj} (hi:i < V.length):slV h (some 2) (.sl (V.map z1h) .no) none (some (.int .i64 (i:Int))) none=some (.sl ((V.take i).map z1h) .no,h):=by
 rw[q9b (by rw[List.length_map];omega) (by cases V <;> rfl),if_neg (by rw[List.length_map];omega),List.map_take]
theorem v3c {d:Def} (hn:q0d q2k [.str d.pred]=some (.bool true)) (hd:DefOk d):Pure Gam 104 [z6x d] (.bool true):=by
 haveI:=hd.u
 have hbl:=hd.wf.2.1
 have hpl:=hd.len
 have p1:=j7q hn
 have p2:Pure Gam 149 [.sl (d.body.map eNode) .no, .int .i64 1, .sl (d.params.map z1h) .no] (.bool true):=j4c (U:=d.params) (V:=d.params) (s:=1) (d:=8) (fun v h=>h) (by omega) (by omega) (by omega) hd.wf.1 (by omega)
 have e1:decide ((40:Int) < (d.params.length:Int))=false:=by rw[decide_eq_false_iff_not];omega
 refine Pure.of rfl y8c rfl rfl rfl (az:=[z6x d]) rfl (by simp[idsL,z8f]) fun D B clk T hB hT=> ?_
 simp only[go_sem,v7v,hB,z6x,z0a p1,z0a p2,Bool.not_true,List.length_map,e1]
 refine z6k d.params.length (by omega) (fun i q=>∃ g0:Nat,q.ts 1= .ptr (B + 0) g0 0 0∧q.ts 3= .int .i64 (i:Int)∧q.h=D++[.blk g0 [.agg [.str d.pred, .sl (d.params.map z1h) .no, .sl (d.body.map eNode) .no]] false false 0]) ⟨_,rfl,rfl,rfl⟩ ?_ ?_
 ·rintro i hlt f1 f2 ts h clk P ⟨g0,q1,q3,rfl⟩ hnx he hr
  dsimp only at q1 q3
  have hv:=List.getElem_mem hlt
  have hix:∀ h,z1p h 2 (.sl (d.params.map z1h) .no) (.int .i64 (i:Int))=some (.iptr [.str d.params[i].name, .int .i64 (d.params[i].sort:Int)] 0,h):=fun h=>z2d hlt rfl rfl
  have hno:∀ v∈d.params.take i,v.name≠d.params[i].name:=fun v hv e=>by
   have h3:((d.params.take (i + 1)).map (·.name)).Nodup:=hd.nd.sublist ((List.take_sublist _ _).map _)
   rw[List.take_succ_eq_append_getElem hlt,List.map_append,List.nodup_append] at h3
   exact h3.2.2 _ (List.mem_map.2 ⟨v,hv,rfl⟩) _ (by simp) e
  have hs:=hd.u.sort _ hv
  have p3:=j7q (hd.u.name2 _ hv)
  have p4:=j3x hs.1 hs.2
  have p5:=k6g (V:=d.params.take i) (u:= .no) (by rw[List.length_take];omega) hno
  rw[nat] at p4
  have hcut:=fun h=>k6p (V:=d.params) (h:=h) hlt
  generalize d.params[i]=v at *
  simp only[go_sem,x7r,q1,q3,hB,f1,f2,List.length_map,hix,z0a p3,z0a p4,hcut,z0a p5,Bool.not_true]
  exact hnx _ ⟨g0,q1,rfl,rfl⟩
 ·rintro f1 ts h clk P ⟨g0,q1,q3,rfl⟩ he hr
  dsimp only at q1 q3
  simp only[go_sem,x7r,q1,q3,hB,f1,List.length_map]
  refine he _ _ ?_
  simp only[go_sem,]
  rw[z0e]
  exact hT _
theorem k6q {s:Sys} {m:List Def} (hs:SysV s) (hm:∀ d∈m,DAt d) (hl:m.length≤1000):Pure Gam 50 [z2a s,q2a m] (.bool (z7i s m)):=by
 have p28:=v7n hs
 rw[z2a] at p28
 have hpl:=hs.pl
 refine Pure.of rfl y7y rfl rfl rfl (az:=[z2a s,q2a m]) rfl (by simp[idsL,z2v,q7o]) fun D B clk T hB hT=> ?_
 by_cases hlen:m.length=s.preds.length
 ·have e1:decide ((m.length:Int)=(s.preds.length:Int))=true:=by rw[decide_eq_true_iff];omega
  simp only[go_sem,k6n,hB,z2a,q2a,z0a p28,Bool.not_true,List.length_map,e1]
  refine z6k m.length (by omega) (fun i q=>∃ (g0 g1:Nat) (o2:AObj),(m.take i).map (·.pred)=(s.preds.take i).map (·.name)∧q.ts 2= .ptr (B + 0) g0 0 0∧q.ts 3= .ptr (B + 1) g1 0 0∧q.ts 5= .int .i64 (i:Int)∧q.h=D++[.blk g0 [.agg [.sl (s.preds.map z0y) .no, .sl (s.clauses.map z0h) .no]] false false 0, .blk g1 [.agg [.sl (m.map z6x) .no]] false false 0,o2]) ⟨_,_,_,by simp,rfl,rfl,rfl,rfl⟩ ?_ ?_
  ·rintro i hlt f1 f2 ts h clk P ⟨g0,g1,o2,hpre,q2,q3,q5,rfl⟩ hnx he hr
   dsimp only at q2 q3 q5
   have hlt2:i < s.preds.length:=by omega
   have hixd:=fun h=>x2h (l:=m) (i:=i) (h:=h) (t:= .no) (k:= .i64) hlt
   have hixf:=fun h=>z8q (l:=s.preds) (i:=i) (h:=h) (t:= .no) (k:= .i64) hlt2
   have hd:=hm _ (List.getElem_mem hlt)
   have hf:=hs.preds.mem (List.getElem_mem hlt2)
   have htk:(m.take (i + 1)).map (·.pred)=(m.take i).map (·.pred)++[m[i].pred]:=by rw[List.take_succ_eq_append_getElem hlt,List.map_append];rfl
   have htk2:(s.preds.take (i + 1)).map (·.name)=(s.preds.take i).map (·.name)++[s.preds[i].name]:=by rw[List.take_succ_eq_append_getElem hlt2,List.map_append];rfl
   have hbad:=j1b (s:=s) (m:=m) hlt hlt2
   have hpn:q0d q2k [.str m[i].pred]=some (.bool true):=by
    obtain⟨g,hg,hn,_⟩:=hd
    rw[hn]
    exact v3a g hg
   have p1038:=v3c hpn hd.ok
   rw[z6x] at p1038
   have hdl:=hd.ok.len
   generalize m[i]=d at *
   by_cases hname:d.pred=s.preds[i].name
   ·obtain⟨_,hsorts⟩:=hd.at hf hname
    have hal:d.params.length=s.preds[i].args.length:=by simpa using congrArg List.length hsorts
    have en:decide (d.pred=s.preds[i].name)=true:=decide_eq_true hname
    have el:decide ((d.params.length:Int)=(s.preds[i].args.length:Int))=true:=by rw[decide_eq_true_iff,hal]
    simp only[go_sem,x2g,q2,q3,q5,hB,f1,List.length_map,hixd,hixf,z0a p1038,Bool.not_true,en,el]
    refine z6k d.params.length (by omega) (fun k q=>∃ ga:Nat,q.ts 2= .ptr (B + 0) g0 0 0∧q.ts 3= .ptr (B + 1) g1 0 0∧q.ts 5= .int .i64 (i:Int)∧q.ts 6= .ptr (B + 2) ga 0 0∧q.ts 7= .int .i64 (k:Int)∧q.h=D++[.blk g0 [.agg [.sl (s.preds.map z0y) .no, .sl (s.clauses.map z0h) .no]] false false 0, .blk g1 [.agg [.sl (m.map z6x) .no]] false false 0, .blk ga [.agg [.str d.pred, .sl (d.params.map z1h) .no, .sl (d.body.map eNode) .no]] false false 0]) ⟨_,by simp[z0b,q2],by simp[z0b,q3],by simp[z0b,q5],rfl,rfl,rfl⟩ ?_ ?_
    ·clear q2 q3 q5 f1
     rintro k hkl f1 f2' ts h clk P' ⟨ga,q2,q3,q5,q6,q7,rfl⟩ hnx' he' hr'
     dsimp only at q2 q3 q5 q6 q7
     have hix:∀ h,z1p h 2 (.sl (d.params.map z1h) .no) (.int .i64 (k:Int))=some (.iptr [.str d.params[k].name, .int .i64 (d.params[k].sort:Int)] 0,h):=fun h=>z2d hkl rfl rfl
     have hka:k < s.preds[i].args.length:=by omega
     have hixa:∀ h,z1p h 1 (.sl (s.preds[i].args.map nat) .no) (.int .i64 (k:Int))=some (.iptr [.int .i64 (s.preds[i].args[k]:Int)] 0,h):=fun h=>z2d hka rfl rfl
     have hse:d.params[k].sort=s.preds[i].args[k]:=by
      have:=congrArg (fun l=>l[k]?) hsorts
      simpa [hkl,hka] using this
     rw[←hse] at hixa
     generalize d.params[k]=v at *
     simp only[go_sem,x2f,q2,q3,q5,q6,q7,hB,f1,f2',List.length_map,hix,hixf,hixa,decide_true,Bool.not_true]
     exact hnx' _ ⟨ga,q2,q3,q5,q6,rfl,rfl⟩
    ·clear q2 q3 q5 f1
     rintro f1 ts h clk P' ⟨ga,q2,q3,q5,q6,q7,rfl⟩ he' hr'
     dsimp only at q2 q3 q5 q6 q7
     simp only[go_sem,x2f,q2,q3,q5,q6,q7,hB,f1,List.length_map]
     refine he' _ _ ?_
     simp only[go_sem,q2,q3,q5,q6,q7,hB,f2]
     exact hnx _ ⟨g0,g1,_,by rw[htk,htk2,hpre,hname],q2,q3,rfl,rfl⟩
   ·have en:decide (d.pred=s.preds[i].name)=false:=decide_eq_false hname
    rw[hbad hname] at hT
    simp only[go_sem,x2g,q2,q3,q5,hB,f1,List.length_map,hixd,hixf,z0a p1038,Bool.not_true,Bool.not_false,en]
    refine hr _ ?_
    simp only[go_sem,]
    rw[z0e]
    exact hT _
  ·rintro f1 ts h clk P ⟨g0,g1,o2,hpre,q2,q3,q5,rfl⟩ he hr
   dsimp only at q2 q3 q5
   rw[List.take_length,hlen,List.take_length] at hpre
   rw[show z7i s m=true from decide_eq_true hpre] at hT
   simp only[go_sem,x2g,q2,q3,q5,hB,f1,List.length_map]
   refine he _ _ ?_
   simp only[go_sem,]
   rw[z0e]
   exact hT _
 ·have e1:decide ((m.length:Int)=(s.preds.length:Int))=false:=by rw[decide_eq_false_iff_not];omega
  rw[x5c hlen] at hT
  simp only[go_sem,k6n,hB,z2a,q2a,z0a p28,Bool.not_true,Bool.not_false,List.length_map,e1]
  rw[z0e]
  exact hT _
end Go.Proofs.YtkollgjffkdliaaGreatDoor.Am
