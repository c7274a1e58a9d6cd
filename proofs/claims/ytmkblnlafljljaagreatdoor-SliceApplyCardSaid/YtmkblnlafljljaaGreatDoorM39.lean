/- Walking: the reference finds the transformation; its lists may be grown by the caller Walking: a transformation is chosen Walking: SliceApply -/
import Derived.Test.YtmkblnlafljljaaGreatDoorM38
open Nat renaming reduceBEq → z0,reduceAdd → z1,reduceLeDiff → z2,reduceSub → z3
set_option linter.all false
namespace Go.Proofs.YtmkblnlafljljaaGreatDoor.Am
open Go
set_option maxRecDepth 100000
section
def y8z (B:Nat) (h D:List AObj) (rs:List ARes) (clk:Nat) (Q:AV→List AObj→Nat→Prop):Post:=fun e s=>(∀ i,e≠ .exit i)∧∃ vs L,z1j s.h s.ts rs=some vs∧s.h=D++L∧(((z1o vs).ids=[]∧Q (z1o vs) h clk)∨((∃ i∈(z1o vs).ids,B≤i)∧Q (z1o vs) (h++L) s.clk))
theorem k4c {f:Nat} {args az:List AV} {h:List AObj} {clk:Nat} {af:AFun} {Q:AV→List AObj→Nat→Prop} (hext:Gam.ext f=none) (hfn:Gam.fn f=some af) (hb:af.byref=[]) (ho:af.owned=true) (hobs:z4x args=[]) (has:cvL args=az) (hids:idsL az=[])
  (hw:∀ (D:List AObj) (B:Nat),D.length=B→B=h.length→K Gam B af.body [] ⟨z9h az,D++List.replicate af.nslots .dead,clk⟩ (y8z B h D af.results clk Q)):WC Gam f args h clk Q:=by
 obtain⟨k,e,s,he,hne,vs,L,hr,hL,hq⟩:=hw (maskFrom [] 0 h) h.length z3v rfl
 have hp:z1f h af.byref 0 args=some az:=by rw[hb,z1k hobs,has]
 have hl:z0n af.byref 0 args=[]:=by rw[hb];exact z5b hobs
 have hdrop:s.h.drop h.length=L:=by rw[hL,List.drop_left' z3v]
 rcases hq with ⟨h1,h2⟩ | ⟨⟨i,hi1,hi2⟩,h2⟩
 ·refine⟨k,z1o vs,h,clk, ?_,h2⟩
  unfold z5i z0i
  simp only[hext,hfn,hp,hl,freezeAll,hids,reach,he,hr,ho,if_true,z5n]
  cases e with
  | exit i=>exact absurd rfl (hne i)
  | norm=>simp[h1]
  | ret=>simp[h1]
 ·refine⟨k,z1o vs,h++L,s.clk, ?_,h2⟩
  have hall:(((z1o vs).ids++(List.map (fun i=>(Option.map AObj.ids s.h[i]?).getD []) ([]:List Nat)).flatten).all fun x=>decide (x < h.length))=false:=by
   rw[List.all_eq_false]
   exact⟨i,by simp[hi1],by simp;omega⟩
  unfold z5i z0i
  simp only[hext,hfn,hp,hl,freezeAll,hids,reach,he,hr,ho,if_true,z5n,hall,Bool.false_eq_true,if_false,hdrop]
  cases e with
  | exit i=>exact absurd rfl (hne i)
  | norm=>simp
  | ret=>simp
def TipN (B k:Nat) (o:AObj) (t:Tip) (e:Nat):Prop:=t= .nil∨∃ g,t= .at (B + k) g∧o= .tip g e
theorem TipN.k {B k e:Nat} {o:AObj} {t:Tip} (h:TipN B k o t e):q3t B k o t e:=h.imp id .inr
section
variable {s:Sys}
open Classical in
noncomputable def q9i (s:Sys):List (List Nat):=(names s).filter fun a=>decide (DS s a)
open Classical in
noncomputable def q4l (s:Sys):List (List Nat):=(names s).filter fun a=>decide (NS s a)
open Classical in
theorem q6n (hs:SysV s) {a:List Nat}:a∈q9i s↔DS s a:=by
 unfold q9i
 rw[List.mem_filter,decide_eq_true_iff]
 refine⟨fun h=>h.2,fun h=>⟨?_,h⟩⟩
 cases h with
 | of hc hh hb=>exact (hs.head hc).resolve_left hh
open Classical in
theorem x5z (hs:SysV s) {a:List Nat}:a∈q4l s↔NS s a:=by
 unfold q4l
 rw[List.mem_filter,decide_eq_true_iff]
 exact⟨fun h=>h.2,fun h=>⟨Need.name hs h,h⟩⟩
end
def tfA (un und:List (List Nat)) (t1 t2:Tip):AV:= .agg [.int .i64 2, .str [], .str [], .int .i64 0, .int .i64 0, .sl (z1m un) t1, .sl (z1m und) t2, .sl [] .nil]
theorem y9a {s:Sys} {h:List AObj} {clk:Nat} {Q:AV→List AObj→Nat→Prop} (hs:SysV s) (hQ:∀ (t1 t2:Tip) (o0 o1 o2 o3 o4 o5 o6:AObj) (L:List AObj) (c:Nat),TipN h.length 6 o6 t1 1→TipN h.length 4 o4 t2 1→(L=[o0,o1,o2,o3,o4,o5,o6]∨(L=[]∧t1= .nil∧t2= .nil))→Q (.tup [tfA (z1i s).un (z1i s).und t1 t2, .int .i64 0]) (h++L) c):WC Gam 9 [z1u s] h clk Q:=by
 have p28:=k6p hs
 have p46:=w5n (l0:=q9i s) hs fun a=>q6n hs
 have p47:=w5o (dl:=q9i s) (n0:=q4l s) (u:= .no) hs (fun a=>q6n hs) fun a=>x5z hs
 rw[z1u] at p28 p46 p47
 have hpl:=hs.pl
 refine k4c rfl y7c rfl rfl rfl (az:=[z1u s]) rfl (by simp[idsL,z2r]) fun D B hB hBh=> ?_
 simp only[go_sem,z0,z1,z2,z3,reduceCtorEq,↓reduceIte,y3v,hB,z1u,z0a p28,z0a p46,z0a p47,Bool.not_true]
 refine q9f s.preds.length (by omega) (fun i q=>∃ (g0 g1 g2:Nat) (t1 t2:Tip) (o3 o4 o5 o6:AObj),q.ts 1= .ptr (B + 0) g0 0 0∧q.ts 2= .ptr (B + 1) g1 0 0∧q.ts 4= .ptr (B + 2) g2 0 0∧q.ts 5= .sl (z0x s.preds (q9i s)) .no∧q.ts 6= .sl (z0x s.preds (q4l s)) .no∧q.ts 7= .int .i64 (i:Int)∧q.h=D++[.blk g0 [.agg [.sl (s.preds.map z0p) .no, .sl (s.clauses.map z0e) .no]] false false 0, .blk g1 [.agg [.int .i64 0, .str [], .str [], .int .i64 0, .int .i64 0, .sl [] .nil, .sl [] .nil, .sl [] .nil]] false false 0, .blk g2 [tfA (j9p (s.preds.take i) (q9i s) (q4l s)) (q9y (s.preds.take i) (q9i s)) t1 t2] false false 0,o3,o4,o5,o6]∧TipN B 6 o6 t1 1∧TipN B 4 o4 t2 1) ⟨_,_,_, .nil, .nil,_,_,_,_,rfl,rfl,rfl,rfl,rfl,rfl,rfl, .inl rfl, .inl rfl⟩ ?_ ?_
 ·rintro i hlt f1 f2 ts h' clk' P ⟨g0,g1,g2,t1,t2,o3,o4,o5,o6,q1,q2,q4,q5,q6,q7,rfl,ht1,ht2⟩ hnx he hr
  dsimp only at q1 q2 q4 q5 q6 q7
  have htake:s.preds.take (i + 1)=s.preds.take i++[s.preds[i]]:=List.take_succ_eq_append_getElem hlt
  have hix:=fun h=>q0l (l:=s.preds) (i:=i) (h:=h) (t:= .no) (k:= .i64) hlt
  have hb1:=fun h=>q9e (ps:=s.preds) (L:=q9i s) (i:=i) (h:=h) (t:= .no) (k:= .i64) hlt
  have hb2:=fun h=>q9e (ps:=s.preds) (L:=q4l s) (i:=i) (h:=h) (t:= .no) (k:= .i64) hlt
  have hl1:=j8m (ps:=s.preds.take i) (dl:=q9i s)
  have hl2:=k3s (ps:=s.preds.take i) (dl:=q9i s) (nl:=q4l s)
  have hu1:q9y (s.preds.take (i + 1)) (q9i s)=q9y (s.preds.take i) (q9i s)++(if s.preds[i].name∈q9i s then [] else [s.preds[i].name]):=by
   unfold q9y
   rw[htake,List.map_append,List.filter_append]
   congr 1
   by_cases h:s.preds[i].name∈q9i s <;> simp[h]
  have hu2:j9p (s.preds.take (i + 1)) (q9i s) (q4l s)=j9p (s.preds.take i) (q9i s) (q4l s)++(if s.preds[i].name∈q9i s∧s.preds[i].name∉q4l s then [s.preds[i].name] else []):=by
   unfold j9p
   rw[htake,List.map_append,List.filter_append]
   congr 1
   by_cases h:s.preds[i].name∈q9i s <;> by_cases h':s.preds[i].name∈q4l s <;> simp[h,h']
  rw[List.length_take] at hl1 hl2
  generalize s.preds[i]=f at *
  by_cases hin:f.name∈q9i s
  ·rw[if_pos hin,List.append_nil] at hu1
   rw[decide_eq_true hin] at hb1
   by_cases hin2:f.name∈q4l s
   ·rw[if_neg (fun h=>h.2 hin2),List.append_nil] at hu2
    rw[decide_eq_true hin2] at hb2
    simp only[go_sem,z0,z1,z2,z3,reduceCtorEq,↓reduceIte,j5m,tfA,q1,q2,q4,q5,q6,q7,hB,f1,f2,List.length_map,hix,hb1,hb2,Bool.not_true]
    exact hnx _ ⟨g0,g1,g2,t1,t2,_,_,_,_,q1,q2,q4,q5,q6,rfl,by rw[hu1,hu2];rfl,ht1,ht2⟩
   ·rw[if_pos ⟨hin,hin2⟩] at hu2
    rw[decide_eq_false hin2] at hb2
    simp only[go_sem,z0,z1,z2,z3,reduceCtorEq,↓reduceIte,j5m,tfA,q1,q2,q4,q5,q6,q7,hB,f1,z1y,List.length_map,hix,hb1,hb2,Bool.not_true,Bool.not_false]
    rw[show [AV.str f.name]=z1m [f.name] from rfl,z0s hB rfl ht1.k z1n z1n (by simp only[z1m,List.length_map,List.length_singleton];omega)]
    have e8:z1m (j9p (s.preds.take i) (q9i s) (q4l s))++z1m [f.name]=z1m (j9p (s.preds.take (i + 1)) (q9i s) (q4l s)):=by rw[hu2,z1m,z1m,z1m,List.map_append]
    simp only[go_sem,z0,z1,z2,z3,reduceCtorEq,↓reduceIte,q1,q2,q4,q5,q6,q7,hB,f2,e8]
    refine⟨by simp[z1r,apart,z0q,z1l,z1v,AOp.isCall,hB,AV.ids,idsL,z2p,z0d z2u], ?_⟩
    exact hnx _ ⟨g0,g1,g2,_,t2,_,_,_,_,q1,q2,q4,q5,q6,rfl,by rw[hu1];rfl, .inr ⟨_,rfl,rfl⟩,ht2⟩
  ·rw[if_neg hin] at hu1
   rw[if_neg (fun h=>hin h.1),List.append_nil] at hu2
   rw[decide_eq_false hin] at hb1
   simp only[go_sem,z0,z1,z2,z3,reduceCtorEq,↓reduceIte,j5m,tfA,q1,q2,q4,q5,q6,q7,hB,f1,z1y,List.length_map,hix,hb1,hb2,Bool.not_false]
   rw[show [AV.str f.name]=z1m [f.name] from rfl,z0s hB rfl ht2.k z1n z1n (by simp only[z1m,List.length_map,List.length_singleton];omega)]
   have e8:z1m (q9y (s.preds.take i) (q9i s))++z1m [f.name]=z1m (q9y (s.preds.take (i + 1)) (q9i s)):=by rw[hu1,z1m,z1m,z1m,List.map_append]
   simp only[go_sem,z0,z1,z2,z3,reduceCtorEq,↓reduceIte,q1,q2,q4,q5,q6,q7,hB,f2,e8]
   refine⟨by simp[z1r,apart,z0q,z1l,z1v,AOp.isCall,hB,AV.ids,idsL,z2p,z0d z2u], ?_⟩
   exact hnx _ ⟨g0,g1,g2,t1,_,_,_,_,_,q1,q2,q4,q5,q6,rfl,by rw[hu2];rfl,ht1, .inr ⟨_,rfl,rfl⟩⟩
 ·rintro f1 ts h' clk' P ⟨g0,g1,g2,t1,t2,o3,o4,o5,o6,q1,q2,q4,q5,q6,q7,rfl,ht1,ht2⟩ he hr
  dsimp only at q1 q2 q4 q5 q6 q7
  rw[List.take_length,k3t fun a=>q6n hs,v3r (fun a=>q6n hs) fun a=>x5z hs]
  simp only[go_sem,z0,z1,z2,z3,reduceCtorEq,↓reduceIte,j5m,q1,q2,q4,q5,q6,q7,hB,f1,List.length_map]
  refine he _ _ ?_
  simp only[go_sem,z0,z1,z2,z3,reduceCtorEq,↓reduceIte,tfA,q1,q2,q4,hB]
  refine⟨fun _=>by simp,[tfA (z1i s).un (z1i s).und t1 t2, .int .i64 0],_, ?_,rfl, ?_⟩
  ·simp only[go_sem,z0,z1,z2,z3,reduceCtorEq,↓reduceIte,hB,tfA,z1c,z1b,z0j,q2,q4]
  subst hBh
  by_cases hids:t1= .nil∧t2= .nil
  ·obtain⟨rfl,rfl⟩:=hids
   refine .inl ⟨by simp[z1o,tfA,AV.ids,idsL,z2p], ?_⟩
   have:=hQ .nil .nil .dead .dead .dead .dead .dead .dead .dead [] clk (.inl rfl) (.inl rfl) (.inr ⟨rfl,rfl,rfl⟩)
   rwa [List.append_nil] at this
  ·refine .inr ⟨?_,hQ t1 t2 _ _ _ _ _ _ _ _ _ ht1 ht2 (.inl rfl)⟩
   rcases ht1 with rfl | ⟨g,rfl,_⟩
   ·rcases ht2 with rfl | ⟨g,rfl,_⟩
    ·exact absurd ⟨rfl,rfl⟩ hids
    ·exact⟨h.length + 4,by simp[z1o,tfA,AV.ids,idsL,z2p],by omega⟩
   ·exact⟨h.length + 6,by simp[z1o,tfA,AV.ids,idsL,z2p],by omega⟩
end
def q5x:List (List Nat):=[[80],[81],[82],[90],[83],[78],[]]
theorem bs7 {h:List AObj}:bsV h (.str []) 7 [0,1,2,3,4,5,6] [.str [80], .str [81], .str [82], .str [90], .str [83], .str [78], .str []]=some (.sl (z1m q5x) .full,h):=(rfl)
theorem x6a {n:Nat} (hn:n < 7) {h:List AObj} {k:IntKind}:z1t h 1 (.sl (z1m q5x) .full) (.int k (n:Int))=some (.iptr [.str (q5x[n]'hn)] 0,h):=q6m hn
theorem j0p {h:List AObj} {e n:Nat} {xs:List AV} {t:Tip} {k:IntKind} (hn:n≤xs.length) (he:z4e e xs=true):slV h (some e) (.sl xs t) (some (.int k (n:Int))) none none=some (.sl (xs.drop n) (if t= .nil then .nil else t),h):=by
 simp[slV,z2l,z4n,hn,he]
theorem x6b {l:List (List Nat)}:z4e 1 (z1m l)=true:=by cases l <;> rfl
def x6c (a:AV):Prop:=a.cv=a∧a.obs=[]∧a.one=true∧a.ids=[]
theorem SmallV.five {s:Nat} {v:AV} (h:SmallV s v):∃ a b c d e,v= .agg [a,b,c,d,e]∧x6c a∧x6c b∧x6c c∧x6c d∧x6c e:=by
 obtain⟨t,q1,q2,q3,q4,q5,q6,q7,q8⟩:=h
 clear q1 q2
 cases v <;> simp only[AV.cells,List.length_singleton] at q7 <;> try omega
 rename_i cs
 match cs,q7 with
 | [a,b,c,d,e],_=>
   simp only[AV.obs,z4x,List.append_eq_nil_iff,and_true] at q3
   simp only[AV.ids,idsL,List.append_eq_nil_iff,and_true] at q5
   simp only[AV.cv,cvL,AV.agg.injEq,List.cons.injEq,and_true] at q4
   simp only[AV.cells,List.all_cons,List.all_nil,Bool.and_true,Bool.and_eq_true] at q8
   exact⟨a,b,c,d,e,rfl,⟨q4.1,q3.1,q8.1,q5.1⟩,⟨q4.2.1,q3.2.1,q8.2.1,q5.2.1⟩,⟨q4.2.2.1,q3.2.2.1,q8.2.2.1,q5.2.2.1⟩,⟨q4.2.2.2.1,q3.2.2.2.1,q8.2.2.2.1,q5.2.2.2.1⟩,⟨q4.2.2.2.2,q3.2.2.2.2,q8.2.2.2.2,q5.2.2.2.2⟩⟩
def w6m (B j:Nat) (R:List AObj) (i:Nat) (t:Tip):Prop:=t= .nil∨∃ g,t= .at (B + j) g∧R[i]? =some (.tip g 1)
theorem y3b {D R:List AObj} {B:Nat} {t:Tip} {l m:List (List Nat)} (hB:D.length=B) (ht:w6m B 17 R 6 t) (hl:l.length + m.length≤1000):∃ R',∀ (gen:Nat) (u:Tip) (a0 a1 a2 a3 a4 a5 a6 a7 a8 a9 a10:AObj),z1d (D++a0::a1::a2::a3::a4::a5::a6::a7::a8::a9::a10::R) (B + 5) gen 1 16 false (.sl (z1m l) t) (.sl (z1m m) u)=some (.sl (z1m (l++m)) (.at (B + 5) gen),D++a0::a1::a2::a3::a4:: .tip gen 1::a6::a7::a8::a9::a10::R'):=by
 have e:z1m (l++m)=z1m l++z1m m:=List.map_append
 have hsz:((z1m l).length + (z1m m).length) * (16 + 1)≤2 ^ 46:=by simp only[z1m,List.length_map];omega
 rw[e]
 rcases ht with rfl | ⟨g,rfl,hR⟩
 ·exact⟨R,fun gen u a0 a1 a2 a3 a4 a5 a6 a7 a8 a9 a10=>z0s (k:=5) hB rfl (.inl rfl) z1n z1n hsz⟩
 ·exact⟨R.set 6 .dead,fun gen u a0 a1 a2 a3 a4 a5 a6 a7 a8 a9 a10=>q5f (j:=17) (k:=5) hB (by simpa using hR) z1n z1n hsz⟩
theorem y3c {D R:List AObj} {B:Nat} {t:Tip} {l m:List (List Nat)} (hB:D.length=B) (ht:w6m B 15 R 4 t) (hl:l.length + m.length≤1000):∃ R',∀ (gen:Nat) (u:Tip) (a0 a1 a2 a3 a4 a5 a6 a7 a8 a9 a10:AObj),z1d (D++a0::a1::a2::a3::a4::a5::a6::a7::a8::a9::a10::R) (B + 7) gen 1 16 false (.sl (z1m l) t) (.sl (z1m m) u)=some (.sl (z1m (l++m)) (.at (B + 7) gen),D++a0::a1::a2::a3::a4::a5::a6:: .tip gen 1::a8::a9::a10::R'):=by
 have e:z1m (l++m)=z1m l++z1m m:=List.map_append
 have hsz:((z1m l).length + (z1m m).length) * (16 + 1)≤2 ^ 46:=by simp only[z1m,List.length_map];omega
 rw[e]
 rcases ht with rfl | ⟨g,rfl,hR⟩
 ·exact⟨R,fun gen u a0 a1 a2 a3 a4 a5 a6 a7 a8 a9 a10=>z0s (k:=7) hB rfl (.inl rfl) z1n z1n hsz⟩
 ·exact⟨R.set 4 .dead,fun gen u a0 a1 a2 a3 a4 a5 a6 a7 a8 a9 a10=>q5f (j:=15) (k:=7) hB (by simpa using hR) z1n z1n hsz⟩
theorem y9b {s:Sys} {zs:List Int} {u:Tip} {odd:Bool} {h:List AObj} {clk:Nat} {Q:AV→List AObj→Nat→Prop} (hs:SysV s) (hz:∀ z∈zs, -9223372036854775808≤z∧z≤9223372036854775807) (hQ:∀ y,TfS y→(odd=false→y=z1i s)→Q (eTf y) h clk):WC Gam 11 [z1u s, .sl (q0q zs) u, .bool odd] h clk Q:=by
 have hl:q9m (zs.take 400):=⟨by simp;omega,fun z h=>hz z (List.mem_of_mem_take h)⟩
 have hfl:=j8w hs
 rw[List.length_append] at hfl
 have hft:TfS (z1i s):=⟨by omega,by omega,rfl⟩
 have e41:(z1i s).kind=2:=rfl
 refine q7v rfl y3x rfl rfl rfl (az:=[z1u s, .sl (q0q zs) .no, .bool odd]) rfl (by simp[idsL,z2r,AV.ids,z8y]) fun D B T hB hT=> ?_
 simp only[go_sem,z0,z1,z2,z3,reduceCtorEq,↓reduceIte,y3w,hB,z1u]
 refine k6g fun g c=> ?_
 have e0:∀ x0 x1 x2 x3 x4 x5 x6 x7 x8 x9:AObj,(D++[x0,x1,x2,x3,x4,x5,x6,x7,x8,x9]).length=B + 10:=fun _ _ _ _ _ _ _ _ _ _=>by simp[hB]
 have e1:∀ x0 x1 x2 x3 x4 x5 x6 x7 x8 x9 o:AObj,(D++[x0,x1,x2,x3,x4,x5,x6,x7,x8,x9])++[o]=D++[x0,x1,x2,x3,x4,x5,x6,x7,x8,x9,o]:=fun _ _ _ _ _ _ _ _ _ _ _=>by simp
 have e2:∀ x0 x1 x2 x3 x4 x5 x6 x7 x8 x9 o:AObj,(D++[x0,x1,x2,x3,x4,x5,x6,x7,x8,x9,o]).length=B + 11:=fun _ _ _ _ _ _ _ _ _ _ _=>by simp[hB]
 rw[e0,e1]
 generalize zs.take 400=l at hl
 simp only[go_sem,z0,z1,z2,z3,reduceCtorEq,↓reduceIte,hB]
 have h22:=fun h clk Q=>y9a (s:=s) (h:=h) (clk:=clk) (Q:=Q) hs
 rw[z1u] at h22
 refine z6i (h22 _ _ _ fun t1 t2 o0 o1 o2 o3 o4 o5 o6 R c2 ht1 ht2 hR=> ?_)
 rw[e2] at ht1 ht2
 have hr1:w6m B 17 R 6 t1:=by
  rcases hR with rfl | ⟨_,h,_⟩
  ·exact ht1.imp id fun ⟨g,h1,h2⟩=>⟨g,h1,by rw[h2];rfl⟩
  ·exact .inl h
 have hr2:w6m B 15 R 4 t2:=by
  rcases hR with rfl | ⟨_,_,h⟩
  ·exact ht2.imp id fun ⟨g,h1,h2⟩=>⟨g,h1,by rw[h2];rfl⟩
  ·exact .inl h
 clear ht1 ht2 hR h22 e0 e1 e2
 have fin:∀ y:Tf,TfS y→(odd=false→y=z1i s)→∀ (ta tb tc:Tip) (h':List AObj),RV [] (some [.agg [.int .i64 y.kind, .str y.pred, .str y.into, .int .i64 y.clause, .int .i64 y.atom, .sl (z1m y.un) ta, .sl (z1m y.und) tb, .sl y.drops tc]]) (fun v h'=>T v h') h':=by
  intro y hy ho ta tb tc h'
  rw[z3s rfl (by simp[AV.cv,cvL,AV.ids,idsL,z2p,hy.drops])]
  exact hT _ _ (hQ y hy ho)
 have hu:=hft.un
 have hd:=hft.und
 cases odd with
 | false=>
   simp only[go_sem,z0,z1,z2,z3,reduceCtorEq,↓reduceIte,hB,tfA,List.append_assoc,Bool.not_false,z1c,z1b,z0j]
   exact fin (z1i s) hft (fun _=>rfl) _ _ _ _
 | true=>
   replace fin:=fun y hy=>fin y hy (fun h=>by cases h)
   simp only[go_sem,z0,z1,z2,z3,reduceCtorEq,↓reduceIte,hB,tfA,List.append_assoc,Bool.not_true,bs7]
   refine z1z (k:=10) (z3a hl (by decide) (by decide)) hB rfl (Nat.zero_le _) ?_
   rintro v i ⟨r,rfl,hr1',hr2'⟩ hi
   have hr:r=0∨r=1∨r=2∨r=3∨r=4∨r=5∨r=6∨r=7∨r=8∨r=9:=by omega
   rcases hr with rfl | rfl | rfl | rfl | rfl | rfl | rfl | rfl | rfl | rfl
   ·simp only[go_sem,z0,z1,z2,z3,reduceCtorEq,↓reduceIte,hB,decide_true,Int.reduceEq]
    refine z1z (k:=10) (z3a hl (by decide) (by decide)) hB rfl hi ?_
    rintro v i2 ⟨r,rfl,_,_⟩ hi2
    simp only[go_sem,z0,z1,z2,z3,reduceCtorEq,↓reduceIte,hB,z1c,z1b,z0j]
    exact fin {z1i s with kind:=r} ⟨hu,hd,rfl⟩ _ _ _ _
   ·simp only[go_sem,z0,z1,z2,z3,reduceCtorEq,↓reduceIte,hB,decide_true,decide_false,Int.reduceEq]
    refine z1z (k:=10) (z3a hl (by decide) (by decide)) hB rfl hi ?_
    rintro v i2 ⟨r,rfl,h1,h2⟩ hi2
    obtain⟨n,rfl⟩:∃ k:Nat,r=k:=⟨r.toNat,by omega⟩
    simp only[go_sem,z0,z1,z2,z3,reduceCtorEq,↓reduceIte,hB,x6a (n:=n) (by omega),z1c,z1b,z0j]
    exact fin {z1i s with pred:=q5x[n]'(by show n < 7;omega)} ⟨hu,hd,rfl⟩ _ _ _ _
   ·simp only[go_sem,z0,z1,z2,z3,reduceCtorEq,↓reduceIte,hB,decide_true,decide_false,Int.reduceEq]
    refine z1z (k:=10) (z3a hl (by decide) (by decide)) hB rfl hi ?_
    rintro v i2 ⟨r,rfl,h1,h2⟩ hi2
    obtain⟨n,rfl⟩:∃ k:Nat,r=k:=⟨r.toNat,by omega⟩
    simp only[go_sem,z0,z1,z2,z3,reduceCtorEq,↓reduceIte,hB,x6a (n:=n) (by omega),z1c,z1b,z0j]
    exact fin {z1i s with into:=q5x[n]'(by show n < 7;omega)} ⟨hu,hd,rfl⟩ _ _ _ _
   ·simp only[go_sem,z0,z1,z2,z3,reduceCtorEq,↓reduceIte,hB,decide_true,decide_false,Int.reduceEq]
    refine z1z (k:=10) (z3a hl (by decide) (by decide)) hB rfl hi ?_
    rintro v i2 ⟨r,rfl,h1,h2⟩ hi2
    simp only[go_sem,z0,z1,z2,z3,reduceCtorEq,↓reduceIte,hB,z0c (n:=r - 1) (by omega) (by omega)]
    refine z1z (k:=10) (z3a hl (by decide) (by decide)) hB rfl hi2 ?_
    rintro v i3 ⟨r',rfl,h3,h4⟩ hi3
    simp only[go_sem,z0,z1,z2,z3,reduceCtorEq,↓reduceIte,hB,z0c (n:=r' - 1) (by omega) (by omega),z1c,z1b,z0j]
    exact fin {z1i s with clause:=r - 1,atom:=r' - 1} ⟨hu,hd,rfl⟩ _ _ _ _
   ·simp only[go_sem,z0,z1,z2,z3,reduceCtorEq,↓reduceIte,hB,decide_true,decide_false,Int.reduceEq,z1y]
    refine z1z (k:=10) (z3a hl (by decide) (by decide)) hB rfl hi ?_
    rintro v i2 ⟨r,rfl,h1,h2⟩ hi2
    obtain⟨n,rfl⟩:∃ k:Nat,r=k:=⟨r.toNat,by omega⟩
    have hix:=fun h=>x6a (n:=n) (by omega) (h:=h) (k:= .i64)
    generalize q5x[n]'(by show n < 7;omega)=nm at hix
    obtain⟨R',hap⟩:=y3b (l:=(z1i s).un) (m:=[nm]) hB hr1 (by simp;omega)
    simp only[go_sem,z0,z1,z2,z3,reduceCtorEq,↓reduceIte,hB,hix]
    rw[show [AV.str nm]=z1m [nm] from rfl,hap]
    simp only[go_sem,z0,z1,z2,z3,reduceCtorEq,↓reduceIte,hB,z1c,z1b,z0j]
    refine⟨by simp[z1r,apart,z0q,z1l,z1v,AOp.isCall,hB,AV.ids,idsL,z2p], ?_⟩
    exact fin {z1i s with un:=(z1i s).un++[nm]} ⟨by simp;omega,hd,rfl⟩ _ _ _ _
   ·simp only[go_sem,z0,z1,z2,z3,reduceCtorEq,↓reduceIte,hB,decide_true,decide_false,Int.reduceEq,z1y]
    refine z1z (k:=10) (z3a hl (by decide) (by decide)) hB rfl hi ?_
    rintro v i2 ⟨r,rfl,h1,h2⟩ hi2
    obtain⟨n,rfl⟩:∃ k:Nat,r=k:=⟨r.toNat,by omega⟩
    have hix:=fun h=>x6a (n:=n) (by omega) (h:=h) (k:= .i64)
    generalize q5x[n]'(by show n < 7;omega)=nm at hix
    obtain⟨R',hap⟩:=y3c (l:=(z1i s).und) (m:=[nm]) hB hr2 (by simp;omega)
    simp only[go_sem,z0,z1,z2,z3,reduceCtorEq,↓reduceIte,hB,hix]
    rw[show [AV.str nm]=z1m [nm] from rfl,hap]
    simp only[go_sem,z0,z1,z2,z3,reduceCtorEq,↓reduceIte,hB,z1c,z1b,z0j]
    refine⟨by simp[z1r,apart,z0q,z1l,z1v,AOp.isCall,hB,AV.ids,idsL,z2p], ?_⟩
    exact fin {z1i s with und:=(z1i s).und++[nm]} ⟨hu,by simp;omega,rfl⟩ _ _ _ _
   ·simp only[go_sem,z0,z1,z2,z3,reduceCtorEq,↓reduceIte,hB,decide_true,decide_false,Int.reduceEq,z1y]
    refine z1z (k:=10) (z3a hl (by decide) (by decide)) hB rfl hi ?_
    rintro v i2 ⟨r,rfl,h1,h2⟩ hi2
    obtain⟨n,rfl⟩:∃ k:Nat,r=k:=⟨r.toNat,by omega⟩
    have hix:=fun h=>x6a (n:=n) (by omega) (h:=h) (k:= .i64)
    generalize q5x[n]'(by show n < 7;omega)=nm at hix
    simp only[go_sem,z0,z1,z2,z3,reduceCtorEq,↓reduceIte,hB,hix]
    refine z1z (k:=10) (z3a hl (by decide) (by decide)) hB rfl hi2 ?_
    rintro v i3 ⟨r3,rfl,_,_⟩ hi3
    simp only[go_sem,z0,z1,z2,z3,reduceCtorEq,↓reduceIte,hB]
    refine z1z (k:=10) (z3a hl (by decide) (by decide)) hB rfl hi3 ?_
    rintro v i4 ⟨r4,rfl,_,_⟩ hi4
    simp only[go_sem,z0,z1,z2,z3,reduceCtorEq,↓reduceIte,hB]
    refine z1z (k:=10) (z3a hl (by decide) (by decide)) hB rfl hi4 ?_
    rintro v i5 ⟨r5,rfl,h5,h6⟩ hi5
    obtain⟨m,rfl⟩:∃ k:Nat,r5=k:=⟨r5.toNat,by omega⟩
    have hw:IntKind.i64.wrap (1 + (m:Int))=((1 + m:Nat):Int):=by rw[z0c (by omega) (by omega)];omega
    simp only[go_sem,z0,z1,z2,z3,reduceCtorEq,↓reduceIte,hB,hw]
    refine z1z (k:=10) (k2d (s:=1 + m) hl (by omega) (by omega)) hB rfl hi5 ?_
    rintro v i6 hv hi6
    obtain⟨a,b,c',d,e,rfl,⟨qa1,qa2,qa3,qa4⟩,⟨qb1,qb2,qb3,qb4⟩,⟨qc1,qc2,qc3,qc4⟩,⟨qd1,qd2,qd3,qd4⟩,⟨qe1,qe2,qe3,qe4⟩⟩:=hv.five
    generalize hx:AV.agg [.str nm, .int .i64 r3, .bool (decide (r4=0)),a,b,c',d,e]=w
    have hcells:z0u 8 [w]=true:=by
     subst hx
     simp[z0u,AV.def?,AV.cells,j5g,x7j,x2b,qa3,qb3,qc3,qd3,qe3]
    have hbs:∀ h,bsV h (.agg [.str [], .int .i64 0, .bool false, .int .i64 0, .bool false, .str [], .sl [] .nil, .sl [] .nil]) 1 [0] [w]=some (.sl [w] .full,h):=fun h=>by
     have hwc:w.cv=w:=by subst hx;simp[AV.cv,cvL,qa1,qb1,qc1,qd1,qe1]
     have:=w6h (h:=h) (z:= .agg [.str [], .int .i64 0, .bool false, .int .i64 0, .bool false, .str [], .sl [] .nil, .sl [] .nil]) (v:=w) rfl (by subst hx;simp[AV.obs,z4x,qa2,qb2,qc2,qd2,qe2]) (by rw[hwc];subst hx;rfl) (by rw[hwc];subst hx;rfl)
     rwa [hwc] at this
    have hwo:w.obs=[]:=by subst hx;simp[AV.obs,z4x,qa2,qb2,qc2,qd2,qe2]
    have hwi:w.ids=[]:=by subst hx;simp[AV.ids,idsL,qa4,qb4,qc4,qd4,qe4]
    simp only[go_sem,z0,z1,z2,z3,reduceCtorEq,↓reduceIte,hB,hx,hbs]
    rw[append_nil (k:=9) hB rfl hcells (by simp)]
    simp only[go_sem,z0,z1,z2,z3,reduceCtorEq,↓reduceIte,hB,z1c,z1b,z0j]
    refine⟨by simp[z1r,apart,z0q,z1l,z1v,AOp.isCall,hB,AV.ids,idsL,z2p,hwi,hwo], ?_⟩
    exact fin {z1i s with drops:=[w]} ⟨hu,hd,by simp[idsL,hwi]⟩ _ _ _ _
   ·simp only[go_sem,z0,z1,z2,z3,reduceCtorEq,↓reduceIte,hB,decide_true,decide_false,Int.reduceEq,List.length_nil,Int.reduceLT,z1c,z1b,z0j]
    exact fin (z1i s) hft _ _ _ _
   ·by_cases hk:0 < (z1i s).un.length
    ·have hb:decide (0 < ((z1i s).un.length:Int))=true:=by rw[decide_eq_true_iff];omega
     have hsl:(z1m (z1i s).un).length=(z1i s).un.length:=List.length_map _
     simp only[go_sem,z0,z1,z2,z3,reduceCtorEq,↓reduceIte,hB,decide_true,decide_false,Int.reduceEq,hsl,hb,z1y]
     refine z1z (k:=10) (z3a hl (n:=((z1i s).un.length:Int)) (by omega) (by omega)) hB rfl hi ?_
     rintro v i2 ⟨r,rfl,h1,h2⟩ hi2
     obtain⟨n,rfl⟩:∃ k:Nat,r=k:=⟨r.toNat,by omega⟩
     have hcut:=fun h=>j0p (h:=h) (n:=n) (xs:=z1m (z1i s).un) (t:=t1) (k:= .i64) (by omega) x6b
     rw[show (z1m (z1i s).un).drop n=z1m ((z1i s).un.drop n) from List.map_drop.symm] at hcut
     simp only[go_sem,z0,z1,z2,z3,reduceCtorEq,↓reduceIte,hB,hcut,Option.map_none,z1c,z1b,z0j]
     refine⟨by simp[z1r,apart,z0q,z1l,z1v,AOp.isCall,hB,AV.ids,idsL,z2p], ?_⟩
     exact fin {z1i s with un:=(z1i s).un.drop n} ⟨by simp;omega,hd,rfl⟩ _ _ _ _
    ·have hb:decide (0 < ((z1i s).un.length:Int))=false:=by rw[decide_eq_false_iff_not];omega
     have hsl:(z1m (z1i s).un).length=(z1i s).un.length:=List.length_map _
     simp only[go_sem,z0,z1,z2,z3,reduceCtorEq,↓reduceIte,hB,decide_true,decide_false,Int.reduceEq,hsl,hb,z1c,z1b,z0j]
     exact fin (z1i s) hft _ _ _ _
   ·have hsl:(z1m (z1i s).und).length=(z1i s).und.length:=List.length_map _
    by_cases hk:0 < (z1i s).und.length
    ·have hb:decide (0 < ((z1i s).und.length:Int))=true:=by rw[decide_eq_true_iff];omega
     have hcut:∀ h,slV h (some 1) (.sl (z1m (z1i s).und) t2) (some (.int .i64 1)) none none=some (.sl (z1m ((z1i s).und.drop 1)) (if t2= .nil then .nil else t2),h):=fun h=>by
      have:=j0p (h:=h) (n:=1) (xs:=z1m (z1i s).und) (t:=t2) (k:= .i64) (by omega) x6b
      rw[show (z1m (z1i s).und).drop 1=z1m ((z1i s).und.drop 1) from List.map_drop.symm] at this
      exact this
     simp only[go_sem,z0,z1,z2,z3,reduceCtorEq,↓reduceIte,hB,decide_true,decide_false,Int.reduceEq,hsl,hb,hcut,Option.map_none,z1c,z1b,z0j]
     exact fin {z1i s with und:=(z1i s).und.drop 1} ⟨hu,by simp;omega,rfl⟩ _ _ _ _
    ·have hb:decide (0 < ((z1i s).und.length:Int))=false:=by rw[decide_eq_false_iff_not];omega
     simp only[go_sem,z0,z1,z2,z3,reduceCtorEq,↓reduceIte,hB,decide_true,decide_false,Int.reduceEq,hsl,hb,z1c,z1b,z0j]
     exact fin (z1i s) hft _ _ _ _
theorem v4w:Pure Gam 6 [] (.bool true):=Pure.tab (tab:=[([], .bool true)]) rfl rfl rfl
theorem k6v {s:Sys} {x:Tf} (hs:SysV s) (hx:TfS x):Pure Gam 13 [z1u s,eTf x] (.tup [z1u (z4d s x).1, .int .i64 (z4d s x).2]):=by
 have hp:=w5w hs hx
 rw[z1u,eTf,z1u] at hp
 refine Pure.of rfl y7d rfl rfl rfl (az:=[z1u s,eTf x]) rfl (by simp[idsL,z2r,z8i hx.ok]) fun D B clk T hB hT=> ?_
 simp only[go_sem,z0,z1,z2,z3,reduceCtorEq,↓reduceIte,y3y,hB,z1u,eTf,z0a hp,z1c,z1b,z0j]
 rw[z0h rfl (by simp[z1o,AV.cv,cvL,AV.ids,idsL,z0d z2u,z0d z1s])]
 exact hT _
theorem y9c {zs:List Int} {u:Tip} {h:List AObj} {clk:Nat} {Q:AV→List AObj→Nat→Prop} (hz:∀ z∈zs, -9223372036854775808≤z∧z≤9223372036854775807) (hQ:∀ s,SysOk s→Q (z1u s) h clk):WC Gam 7 [.sl (q0q zs) u] h clk Q:=by
 refine q7v rfl y7b rfl rfl rfl (az:=[.sl (q0q zs) .no]) rfl (by simp[idsL,AV.ids,z8y]) fun D B T hB hT=> ?_
 simp only[go_sem,z0,z1,z2,z3,reduceCtorEq,↓reduceIte,y3u,hB]
 refine z6i (y8l hz (w3h ⟨by rw[List.length_take];omega,fun z hz'=>hz z (List.mem_of_mem_take hz')⟩) fun s hs=> ?_)
 simp only[go_sem,z0,z1,z2,z3,reduceCtorEq,↓reduceIte,hB,z1u,z1c,z1b,z0j]
 rw[z3s rfl (by simp[AV.cv,cvL,AV.ids,idsL,z0d z2u,z0d z1s])]
 exact hT _ _ (hQ s hs)
theorem x6d {s:Sys} {x:Tf}:(z4d s x).1=q6d∨(z4d s x).1=q1m x s:=by
 cases hu:q2b x with
 | false=>rw[z8l hu];exact .inl rfl
 | true=>
   by_cases hn:q6c s x
   ·cases hk:z5p x.un x.und s.clauses 0 [] with
    | none=>rw[z8m hu hn hk];exact .inl rfl
    | some out=>rw[z6s hu hn hk];exact .inr rfl
   ·rw[z6z hu hn];exact .inl rfl
theorem AppOk.len2 {ps:List Func} {V:List Var} {a:App} (h:AppOk ps V a) (hp:PrOk ps):a.args.length≤20000∧∀ t∈a.args,t.length≤20000:=by
 obtain⟨f,hf,_,hl,hz⟩:=h
 have h40:=(hp.args f hf).1
 refine⟨by omega,fun t ht=> ?_⟩
 obtain⟨i,hi,rfl⟩:=List.getElem_of_mem ht
 have hif:i < f.args.length:=by omega
 have hm:(f.args[i],a.args[i])∈f.args.zip a.args:=by
  have:(f.args.zip a.args)[i]? =some (f.args[i],a.args[i]):=by simp[List.getElem?_zip_eq_some,hif,hi]
  exact List.mem_of_getElem? this
 have:=(hz _ hm).2.1
 dsimp only at this
 omega
theorem SysV.cmp {s:Sys} (hs:SysV s):∀ c∈s.clauses,CmpC c:=fun c hc=>by
 obtain⟨hv,hb,hba,hg,hh⟩:=hs.clauses c hc
 refine⟨by have:c.vars.length≤8:=hv.length_le;omega,by omega,by have:=hg.2.1;omega, ?_,fun a ha=>(hba a ha).len2 hs.pr⟩
 rcases hh with ⟨_,h⟩ | h
 ·rw[h];simp
 ·exact h.len2 hs.pr
theorem j9l {s:Sys} {x:Tf} (hs:SysV s):Pure Gam 14 [z1u (z4d s x).1,z1u (z4d s x).1] (.bool true):=by
 have hpl:=hs.pl
 have hcl:=hs.len
 rcases x6d (s:=s) (x:=x) with h | h <;> rw[h]
 ·exact k6t (by simp[q6d]) (by simp[q6d]) (by simp[q6d]) (by simp[q6d])
 ·have hsub:=q9h (x:=x) (s:=s)
  have hl1:=hsub.1.length_le
  have hl2:=hsub.2.length_le
  exact k6t (by omega) (fun f hf=>by have:=(hs.pr.args f (hsub.1.mem hf)).1;omega) (by omega) fun c hc=>hs.cmp c (hsub.2.mem hc)
theorem x8p {s:Sys} (hs:SysV s):(z4d s (z1i s)).2=0:=by
 obtain⟨out,ho⟩:=q9c (un:=(z1i s).un) (und:=(z1i s).und) (i:=0) (out:=[]) fun c hc=>j8x hs hc
 rw[z6s (by rfl) ⟨x8l hs,k3w⟩ ho]
theorem w5x {zs ms:List Int} (hz:∀ z∈zs, -9223372036854775808≤z∧z≤9223372036854775807) (hm:∀ z∈ms, -9223372036854775808≤z∧z≤9223372036854775807):WC Gam 4 [.sl (q0q zs) .no, .sl (q0q ms) .no] [] 0 fun v _ _=>v= .bool true:=by
 refine q7v rfl fn6 rfl rfl rfl (az:=[.sl (q0q zs) .no, .sl (q0q ms) .no]) rfl (by simp[idsL,AV.ids,z8y]) fun D B R hB hR=> ?_
 simp only[go_sem,z0,z1,z2,z3,reduceCtorEq,↓reduceIte,af6,hB]
 refine z6i (y9c hz fun s hs=> ?_)
 have hv:=hs.v
 have hf:∀ (odd:Bool) (h:List AObj) (u:Tip),z0v Gam 11 [z1u s, .sl (q0q ms) u, .bool odd] h=[]:=fun odd h u=>q0h y3x rfl rfl rfl (by simp[cvL,AV.cv,idsL,z2r,AV.ids,z8y,k6e])
 rw[z1u] at hf
 simp only[go_sem,z0,z1,z2,z3,reduceCtorEq,↓reduceIte,hB,z1u,z1y]
 have h23:=fun odd u h clk Q=>y9b (s:=s) (zs:=ms) (u:=u) (odd:=odd) (h:=h) (clk:=clk) (Q:=Q) hv hm
 rw[z1u] at h23
 refine q8y (hf _ _ _) (h23 _ _ _ _ _ fun x hx hx0=> ?_)
 obtain rfl:=hx0 rfl
 simp only[go_sem,z0,z1,z2,z3,reduceCtorEq,↓reduceIte,hB]
 refine q8y (hf _ _ _) (h23 _ _ _ _ _ fun y hy _=> ?_)
 have p1:=j9k hv hx
 have p2:=k6v hv hx
 have p3:=j9k hv hy
 have p4:=k6v hv hy
 have p5:=j9l (x:=z1i s) hv
 have p6:=j9l (x:=y) hv
 have e0:=x8p hv
 have k0:(z1i s).kind=2:=rfl
 rw[e0] at p1 p2
 generalize z4d s (z1i s)=r1 at *
 generalize z4d s y=r2 at *
 simp only[z1u,eTf,k0] at p1 p2 p3 p4 p5 p6
 simp only[go_sem,z0,z1,z2,z3,reduceCtorEq,↓reduceIte,hB,eTf]
 refine⟨by simp[z1r,apart,z0q,z1l,z1v,AOp.isCall,hB], ?_⟩
 simp only[go_sem,z0,z1,z2,z3,reduceCtorEq,↓reduceIte,hB,z0a p1,z0a p2,z0a p3,z0a p4,z0a p5,z0a p6,z0a v4w,decide_true,decide_false,k0,Int.reduceEq]
 rw[z0f]
 exact hR _ _ rfl
end Go.Proofs.YtmkblnlafljljaaGreatDoor.Am
