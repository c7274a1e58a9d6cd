/- Plain facts about lists of definitions, and slices that grow at two places Walking: values are stored in arrays Walking: values are compared, looked up, copied Walking: division of integers, boolean o -/
import Derived.Test.YtkollgjffkdliaaGreatDoorM32
open Bool renaming not_false → j5,not_true → z7
open Int renaming cast_ofNat_Int → z9,natAbs_natCast → m8,reduceEq → z8
open List renaming append_assoc → n0,append_nil → u5,getElem_mem → j9,length_append → y5,length_cons → u6,length_map → z6,length_nil → d5,length_singleton → w0,length_take → b6,map_append → v5,map_cons → k8,map_nil → w7,mem_append → j6,mem_iff_getElem → t4,mem_singleton → u7,nil_append → d3,take_length → u4,take_of_length_le → b7,take_succ_eq_append_getElem → w8
open Nat renaming add_zero → l9,gcd → y7,le_refl → j8,le_trans → w9,zero_add → y4
set_option linter.all false
namespace Go.Proofs.YtkollgjffkdliaaGreatDoor.Am
open Go
set_option maxRecDepth 100000
def u8q:Def:=⟨[],[],[]⟩
def z5y (m:List Def) (n:List Nat):Def:=(m.find? fun d=>decide (d.pred=n)).getD u8q
theorem z9w {m:List Def} {j:Nat} (hj:j < m.length) (hn:(m.map (·.pred)).Nodup):z5y m m[j].pred=m[j]:=by
 have:m.find? (fun d=>decide (d.pred=m[j].pred))=some m[j]:=by
  rw[List.find?_eq_some_iff_getElem]
  refine⟨by simp,j,hj,rfl,fun k hk=> ?_⟩
  have hne:m[k].pred≠m[j].pred:=fun e=>by
   have:=(List.getElem_inj (xs:=m.map (·.pred)) (i:=k) (j:=j) (h₀:=by simp;omega) (h₁:=by simpa using hj) hn).1 (by simpa using e)
   omega
  simp[hne]
 rw[z5y,this]
 rfl
theorem x4w {D L:List AObj} {B p q e b gen:Nat} {xs ys:List AV} {t u:Tip} {o o':AObj} (hB:D.length=B) (hp:L[p]? =some o) (hq:L[q]? =some o') (ht:z8x B p o t e∨z8x B q o' t e) (hx:z0n e xs=true) (hy:z0n e ys=true) (hl:(xs.length + ys.length) * (b + 1)≤2 ^ 46):
  ∃ L',(L'=L∨L'=L.set q .dead)∧z0r (D++L) (B + p) gen e b false (.sl xs t) (.sl ys u)=some (.sl (xs++ys) (.at (B + p) gen),D++L'.set p (.tip gen e)):=by
 rcases ht with ht | rfl | rfl | ⟨g,rfl,rfl⟩
 ·exact⟨L, .inl rfl,z0q hB hp ht hx hy hl⟩
 ·exact⟨L, .inl rfl,z0q hB hp (.inl rfl) hx hy hl⟩
 ·exact⟨L, .inl rfl,z0q hB hp (.inr (.inl rfl)) hx hy hl⟩
 ·exact⟨_, .inr rfl,k0f hB hq hx hy hl⟩
theorem z9l {D L:List AObj} {B p q e b gen d g clk:Nat} {xs ys:List AV} {t u:Tip} {o o':AObj} {f:List Nat×List Nat} {m:Md} {os:List AOper} {ts:Tmps} {ks:List Kf} {Q:Post} (hB:D.length=B) (hp:L[p]? =some o) (hq:L[q]? =some o') (ht:z8x B p o t e∨z8x B q o' t e) (hx:z0n e xs=true) (hy:z0n e ys=true) (hl:(xs.length + ys.length) * (b + 1)≤2 ^ 46)
  (hQ:∀ L',(L'=L∨L'=L.set q .dead)→O Gam B (m.add f) (g + 1) os ⟨upd ts d (.sl (xs++ys) (.at (B + p) gen)),D++L'.set p (.tip gen e),clk⟩ ks Q):PO Gam B (z0r (D++L) (B + p) gen e b false (.sl xs t) (.sl ys u)) f m (some d) g os ts clk ks Q:=by
 obtain⟨L',h1,h2⟩:=x4w (b:=b) (gen:=gen) (u:=u) hB hp hq ht hx hy hl
 rw[h2]
 exact hQ L' h1
section
set_option maxHeartbeats 0
def w7c (z k w:Int):List (Int×Int):=if w=z then [] else [(k,w)]
def j3q (z k w:Int) (l:List (Int×Int)) (put:Bool):List (Int×Int):=(l.filter fun p=>decide (p.1 < k))++((if put=true then w7c z k w else [])++l.filter fun p=>decide (k < p.1))
theorem w6f {z k w:Int} {l:List (Int×Int)}:j3q z k w l true=v1h z l k w:=rfl
def q1p (k:Int) (l:List (Int×Int)):Bool:=l.any fun p=>decide (k≤p.1)
theorem v2h {z k w:Int} {l:List (Int×Int)} {i:Nat} (hs:l.Pairwise (fun p q=>p.1 < q.1)) (hi:i < l.length):
  q1p k (l.take (i + 1))=(q1p k (l.take i) || decide (k≤l[i].1))∧j3q z k w (l.take (i + 1)) (q1p k (l.take (i + 1)))=j3q z k w (l.take i) (q1p k (l.take i))++((if q1p k (l.take i)=false∧k≤l[i].1 then w7c z k w else [])++(if l[i].1=k then [] else [l[i]]))∧(q1p k (l.take i)=true→k < l[i].1):=by
 have ht:l.take (i + 1)=l.take i++[l[i]]:=w8 hi
 have h1:q1p k (l.take (i + 1))=(q1p k (l.take i) || decide (k≤l[i].1)):=by rw[ht,q1p,List.any_append];simp[q1p]
 have h3:q1p k (l.take i)=true→k < l[i].1:=fun h=>by
  obtain⟨p,hp,h2⟩:=List.any_eq_true.1 h
  have h2:=of_decide_eq_true h2
  obtain⟨j,hj,rfl⟩:=t4.1 hp
  have hj':j < i:=by simp at hj;omega
  have:=List.pairwise_iff_getElem.1 hs j i (by omega) hi hj'
  simp only[List.getElem_take] at h2
  omega
 refine⟨h1, ?_,h3⟩
 rw[h1,ht]
 unfold j3q
 rw[List.filter_append,List.filter_append]
 cases hp:q1p k (l.take i) with
 | true=>
   have:=h3 hp
   have a1:¬ l[i].1 < k:=by omega
   have a2:l[i].1≠k:=by omega
   simp[this,a1,a2,List.filter_cons]
 | false=>
   have hno:(l.take i).filter (fun p=>decide (k < p.1))=[]:=by
    rw[List.filter_eq_nil_iff]
    intro p hp'
    have:=List.any_eq_false.1 hp p hp'
    simp only[decide_eq_true_eq] at this⊢
    omega
   rw[hno]
   rcases Int.lt_trichotomy l[i].1 k with h | h | h
   ·have a1:¬ k≤l[i].1:=by omega
    have a2:¬ k < l[i].1:=by omega
    have a3:l[i].1≠k:=by omega
    simp[h,a1,a2,a3,List.filter_cons]
   ·have a1:k≤l[i].1:=by omega
    have a2:¬ k < l[i].1:=by omega
    have a3:¬ l[i].1 < k:=by omega
    simp[h,a1,a2,a3,List.filter_cons]
   ·have a1:k≤l[i].1:=by omega
    have a2:¬ l[i].1 < k:=by omega
    have a3:l[i].1≠k:=by omega
    simp[h,a1,a2,a3,List.filter_cons]
theorem v2i {z k w:Int} {l:List (Int×Int)} (h:q1p k l=false):j3q z k w l true=j3q z k w l false++w7c z k w:=by
 have hno:l.filter (fun p=>decide (k < p.1))=[]:=by
  rw[List.filter_eq_nil_iff]
  intro p hp'
  have:=List.any_eq_false.1 h p hp'
  simp only[decide_eq_true_eq] at this⊢
  omega
 unfold j3q
 rw[hno]
 simp
theorem z5j {l:List (Int×Int)} {f:Int×Int→List Nat} {x:List (Int×Int)}:z2s (l.map f)++z2s (x.map f)=z2s ((l++x).map f):=by simp[z2s]
theorem v2j {z k w:Int} {l:List (Int×Int)} {b:Bool}:(j3q z k w l b).length≤2 * l.length + 1:=by
 unfold j3q w7c
 have h1:=List.length_filter_le (fun p:Int×Int=>decide (p.1 < k)) l
 have h2:=List.length_filter_le (fun p:Int×Int=>decide (k < p.1)) l
 simp only[y5]
 split
 ·split <;> simp <;> omega
 ·simp;omega
theorem v2k {m:Nat} {z k w:Int} {l:List (Int×Int)} (hm:m≤330000) (h:VOk m 4 (.arr z l)) (hk:(dec k.natAbs).length≤19999999) (hw:(dec w.natAbs).length≤19999999):Pure Gam 1048625 [eV (.arr z l), .str (z0i k), .str (z0i w)] (.tup [eV (.arr z (v1h z l k w)), .int .i64 0]):=by
 have p1:=x7h hm h
 rw[q3u] at p1
 obtain⟨_,hz,hs,hp,hlm⟩:=h
 refine Pure.of rfl y3e rfl rfl rfl (az:=[eV (.arr z l), .str (z0i k), .str (z0i w)]) rfl (by simp[idsL,q1o,AV.ids]) fun D B clk T hB hT=> ?_
 simp only[go_sem,v6u,hB,q3u,z0a p1,z9,z8,decide_true,decide_false,z7,j5,z0a (z8s (z:=k) (by omega)),z0a (z8s (z:=w) (by omega))]
 refine z3t (l.length + 1) (by omega) (fun i q=>∃ (g0 g1 g2:Nat) (put:Bool) (t u:Tip) (o3 o4 o5 o6 o7 o8 o9 o10:AObj),put=(if i≤l.length then q1p k (l.take i) else true)∧q.ts 1= .str (z0i k)∧q.ts 2= .str (z0i w)∧q.ts 3= .ptr (B + 0) g0 0 0∧q.ts 6= .ptr (B + 1) g1 0 0∧q.ts 7= .int .i64 0∧q.ts 8= .ptr (B + 2) g2 0 0∧q.ts 9= .bool put∧q.ts 10= .int .i64 (i:Int)∧q.h=D++[.blk g0 [.agg [.int .i64 4, .bool false, .str (z0i z), .sl (z2s (l.map fun p=>z0i p.1)) .no, .sl (z2s (l.map fun p=>z0i p.2)) .no]] false false 0, .blk g1 [.agg [.int .i64 0, .bool false, .str [], .sl [] .nil, .sl [] .nil]] false false 0, .blk g2 [.agg [.int .i64 4, .bool false, .str (z0i z), .sl (z2s ((j3q z k w (l.take i) put).map fun p=>z0i p.1)) t, .sl (z2s ((j3q z k w (l.take i) put).map fun p=>z0i p.2)) u]] false false 0,o3,o4,o5,o6,o7,o8,o9,o10]∧(z8x B 4 o4 t 1∨z8x B 8 o8 t 1)∧(z8x B 6 o6 u 1∨z8x B 10 o10 u 1)) ⟨_,_,_,false, .nil, .nil,_,_,_,_,_,_,_,_,by simp[q1p],rfl,rfl,rfl,rfl,rfl,rfl,rfl,rfl,rfl, .inl (.inl rfl), .inl (.inl rfl)⟩ ?_ ?_
 ·rintro i hlt f1 f2 ts h clk P ⟨g0,g1,g2,put,t,u,o3,o4,o5,o6,o7,o8,o9,o10,hput,q1,q2,q3,q6,q7,q8,q9,q10,rfl,ht,hu⟩ hnx he hr
  dsimp only at q1 q2 q3 q6 q7 q8 q9 q10
  have tn:∀ t:Tip,(z8x B 4 o4 t 1∨z8x B 8 o8 t 1)→∀ j,j < 4→∀ x,(x∈match t with | Tip.at s gen=>[s] | _=>[])→¬ x=B + j:=fun t ht j hj x hx=>by
   rcases ht with (rfl | rfl | ⟨g,rfl,_⟩) | (rfl | rfl | ⟨g,rfl,_⟩) <;> simp at hx <;> omega
  have hil:i≤l.length:=by omega
  rw[if_pos hil] at hput
  have f3:decide ((i:Int)≤(l.length:Int))=true:=by rw[z04];omega
  have hol:(j3q z k w (l.take i) put).length≤700000:=w9 v2j (by rw[b6];omega)
  by_cases hlen:i < l.length
  ·have f4:decide ((i:Int) < (l.length:Int))=true:=by rw[z04];omega
   have f5:decide ((i:Int)=(l.length:Int))=false:=by rw[z03];omega
   obtain⟨s1,s2,s3⟩:=v2h (z:=z) (k:=k) (w:=w) hs hlen
   rw[←hput] at s1 s2 s3
   have hk':=fun h=>x7g (l:=l) (h:=h) (t:= .no) hlen
   have hv:=fun h=>j3j (l:=l) (h:=h) (t:= .no) hlen
   obtain⟨n1,n2,n3⟩:=hp _ (j9 hlen)
   have pc:=j6y (a:=l[i].1) (b:=k) (by omega) hk
   have hil2:i + 1≤l.length:=hlen
   generalize l[i]=x at *
   cases put with
   | true=>
     have hx:=s3 rfl
     have s1':q1p k (l.take (i + 1))=true:=by rw[s1];rfl
     have eK:decide (z0i x.1=z0i k)=false:=decide_eq_false fun e=>by have:=z7y e;omega
     rw[s1',if_neg (by simp),if_neg (by omega),d3] at s2
     simp only[go_sem,z8a,q1,q2,q3,q6,q7,q8,q9,q10,hB,f3,f4,z1o,hk',eK,z7,j5,z1a]
     rw[show [AV.str (z0i x.1)]=z2s ([x].map fun p=>z0i p.1) from rfl]
     refine z9l (q:=4) hB rfl rfl ht.symm z0v z0v (by simp only[z1o,w0,y5];omega) fun L1 h1=> ?_
     rw[z5j]
     rcases h1 with rfl | rfl
     all_goals
      simp only[go_sem,q1,q2,q3,q6,q7,q8,q9,q10,hB,hv]
      rw[show [AV.str (z0i x.2)]=z2s ([x].map fun p=>z0i p.2) from rfl]
      refine z9l (q:=6) hB rfl rfl hu.symm z0v z0v (by simp only[z1o,w0,y5];omega) fun L2 h2=> ?_
      rw[z5j]
      rcases h2 with rfl | rfl
      all_goals
       simp only[go_sem,q1,q2,q3,q6,q7,q8,q9,q10,hB,hv,f2]
       refine⟨by simp[z1b,apart,z0j,z0z,z1d,AOp.isCall,hB,AV.ids,idsL,z0x] <;> first | exact⟨tn t ht 2 (by omega),tn t ht 0 (by omega)⟩ | exact tn t ht 2 (by omega) | exact tn t ht 0 (by omega), ?_⟩
       exact hnx _ ⟨g0,g1,g2,true,_,_,_,_,_,_,_,_,_,_,(by rw[if_pos hil2,s1']),q1,q2,q3,q6,q7,q8,q9,rfl,by rw[s2] <;> rfl, .inr (.inr (.inr ⟨_,rfl,rfl⟩)), .inr (.inr (.inr ⟨_,rfl,rfl⟩))⟩
   | false=>
     by_cases hkx:k≤x.1
     ·have s1':q1p k (l.take (i + 1))=true:=by rw[s1,decide_eq_true hkx];rfl
      have e0:decide (0≤v7j x.1 k)=true:=by rw[v7j,if_neg (by omega)];split <;> rfl
      rw[s1',if_pos ⟨rfl,hkx⟩,w7c] at s2
      by_cases hwz:w=z
      ·have eW:decide (z0i w=z0i z)=true:=decide_eq_true (by rw[hwz])
       rw[if_pos hwz,d3] at s2
       by_cases hxk:x.1=k
       ·have eK:decide (z0i x.1=z0i k)=true:=decide_eq_true (by rw[hxk])
        rw[if_pos hxk,u5] at s2
        simp only[go_sem,z8a,q1,q2,q3,q6,q7,q8,q9,q10,hB,f2,f3,f4,f5,z1o,hk',eK,eW,z0a pc,e0,z7,j5]
        exact hnx _ ⟨g0,g1,g2,true,_,_,_,_,_,_,_,_,_,_,(by rw[if_pos hil2,s1']),q1,q2,q3,q6,q7,q8,rfl,rfl,by rw[s2] <;> rfl,ht,hu⟩
       ·have eK:decide (z0i x.1=z0i k)=false:=decide_eq_false fun e=>hxk (z7y e)
        rw[if_neg hxk] at s2
        simp only[go_sem,z8a,q1,q2,q3,q6,q7,q8,q9,q10,hB,f3,f4,f5,z1o,hk',eK,eW,z0a pc,e0,z7,j5,z1a]
        rw[show [AV.str (z0i x.1)]=z2s ([x].map fun p=>z0i p.1) from rfl]
        refine z9l (q:=4) hB rfl rfl ht.symm z0v z0v (by simp only[z1o,w0,y5];omega) fun L1 h1=> ?_
        rw[z5j]
        rcases h1 with rfl | rfl
        all_goals
         simp only[go_sem,q1,q2,q3,q6,q7,q8,q9,q10,hB,hv]
         rw[show [AV.str (z0i x.2)]=z2s ([x].map fun p=>z0i p.2) from rfl]
         refine z9l (q:=6) hB rfl rfl hu.symm z0v z0v (by simp only[z1o,w0,y5];omega) fun L2 h2=> ?_
         rw[z5j]
         rcases h2 with rfl | rfl
         all_goals
          simp only[go_sem,q1,q2,q3,q6,q7,q8,q9,q10,hB,hv,f2]
          refine⟨by simp[z1b,apart,z0j,z0z,z1d,AOp.isCall,hB,AV.ids,idsL,z0x] <;> first | exact⟨tn t ht 2 (by omega),tn t ht 0 (by omega)⟩ | exact tn t ht 2 (by omega) | exact tn t ht 0 (by omega), ?_⟩
          exact hnx _ ⟨g0,g1,g2,true,_,_,_,_,_,_,_,_,_,_,(by rw[if_pos hil2,s1']),q1,q2,q3,q6,q7,q8,rfl,rfl,by rw[s2] <;> rfl, .inr (.inr (.inr ⟨_,rfl,rfl⟩)), .inr (.inr (.inr ⟨_,rfl,rfl⟩))⟩
      ·have eW:decide (z0i w=z0i z)=false:=decide_eq_false fun e=>hwz (z7y e)
       rw[if_neg hwz,←n0] at s2
       by_cases hxk:x.1=k
       ·have eK:decide (z0i x.1=z0i k)=true:=decide_eq_true (by rw[hxk])
        rw[if_pos hxk,u5] at s2
        simp only[go_sem,z8a,q1,q2,q3,q6,q7,q8,q9,q10,hB,f3,f4,f5,z1o,hk',eK,eW,z0a pc,e0,z7,j5,z1a]
        rw[show [AV.str (z0i k)]=z2s ([(k,w)].map fun p=>z0i p.1) from rfl]
        refine z9l (q:=8) hB rfl rfl ht z0v z0v (by simp only[z1o,w0,y5];omega) fun L1 h1=> ?_
        rw[z5j]
        rcases h1 with rfl | rfl
        all_goals
         simp only[go_sem,q1,q2,q3,q6,q7,q8,q9,q10,hB,hv]
         rw[show [AV.str (z0i w)]=z2s ([(k,w)].map fun p=>z0i p.2) from rfl]
         refine z9l (q:=10) hB rfl rfl hu z0v z0v (by simp only[z1o,w0,y5];omega) fun L2 h2=> ?_
         rw[z5j]
         rcases h2 with rfl | rfl
         all_goals
          simp only[go_sem,q1,q2,q3,q6,q7,q8,q9,q10,hB,z1a]
          refine⟨by simp[z1b,apart,z0j,z0z,z1d,AOp.isCall,hB,AV.ids,idsL,z0x] <;> first | exact⟨tn t ht 2 (by omega),tn t ht 0 (by omega)⟩ | exact tn t ht 2 (by omega) | exact tn t ht 0 (by omega), ?_⟩
          simp only[go_sem,q1,q2,q3,q6,q7,q8,q9,q10,hB,f2,f4,z1o,hk',eK,z7,j5]
          exact hnx _ ⟨g0,g1,g2,true,_,_,_,_,_,_,_,_,_,_,(by rw[if_pos hil2,s1']),q1,q2,q3,q6,q7,q8,rfl,rfl,by rw[s2] <;> rfl, .inl (.inr (.inr ⟨_,rfl,rfl⟩)), .inl (.inr (.inr ⟨_,rfl,rfl⟩))⟩
       ·have eK:decide (z0i x.1=z0i k)=false:=decide_eq_false fun e=>hxk (z7y e)
        rw[if_neg hxk] at s2
        have hol2:(j3q z k w (l.take i) false++[(k,w)]).length≤700001:=by rw[y5];simp;omega
        simp only[go_sem,z8a,q1,q2,q3,q6,q7,q8,q9,q10,hB,f3,f4,f5,z1o,hk',eK,eW,z0a pc,e0,z7,j5,z1a]
        rw[show [AV.str (z0i k)]=z2s ([(k,w)].map fun p=>z0i p.1) from rfl]
        refine z9l (q:=8) hB rfl rfl ht z0v z0v (by simp only[z1o,w0,y5];omega) fun L1 h1=> ?_
        rw[z5j]
        rcases h1 with rfl | rfl
        all_goals
         simp only[go_sem,q1,q2,q3,q6,q7,q8,q9,q10,hB,hv]
         rw[show [AV.str (z0i w)]=z2s ([(k,w)].map fun p=>z0i p.2) from rfl]
         refine z9l (q:=10) hB rfl rfl hu z0v z0v (by simp only[z1o,w0,y5];omega) fun L2 h2=> ?_
         rw[z5j]
         rcases h2 with rfl | rfl
         all_goals
          simp only[go_sem,q1,q2,q3,q6,q7,q8,q9,q10,hB,z1a]
          refine⟨by simp[z1b,apart,z0j,z0z,z1d,AOp.isCall,hB,AV.ids,idsL,z0x] <;> first | exact⟨tn t ht 2 (by omega),tn t ht 0 (by omega)⟩ | exact tn t ht 2 (by omega) | exact tn t ht 0 (by omega), ?_⟩
          simp only[go_sem,q1,q2,q3,q6,q7,q8,q9,q10,hB,f4,z1o,hk',eK,z7,j5,z1a]
          rw[show [AV.str (z0i x.1)]=z2s ([x].map fun p=>z0i p.1) from rfl]
          refine z9l (q:=4) hB rfl rfl (.inr (.inr (.inr ⟨_,rfl,rfl⟩))) z0v z0v (by simp only[z1o,w0,y5];omega) fun L1 h1=> ?_
          rw[z5j]
          rcases h1 with rfl | rfl
          all_goals
           simp only[go_sem,q1,q2,q3,q6,q7,q8,q9,q10,hB,hv]
           rw[show [AV.str (z0i x.2)]=z2s ([x].map fun p=>z0i p.2) from rfl]
           refine z9l (q:=6) hB rfl rfl (.inr (.inr (.inr ⟨_,rfl,rfl⟩))) z0v z0v (by simp only[z1o,w0,y5];omega) fun L2 h2=> ?_
           rw[z5j]
           rcases h2 with rfl | rfl
           all_goals
            simp only[go_sem,q1,q2,q3,q6,q7,q8,q9,q10,hB,hv,f2]
            refine⟨by simp[z1b,apart,z0j,z0z,z1d,AOp.isCall,hB,AV.ids,idsL,z0x] <;> first | exact⟨tn t ht 2 (by omega),tn t ht 0 (by omega)⟩ | exact tn t ht 2 (by omega) | exact tn t ht 0 (by omega), ?_⟩
            exact hnx _ ⟨g0,g1,g2,true,_,_,_,_,_,_,_,_,_,_,(by rw[if_pos hil2,s1']),q1,q2,q3,q6,q7,q8,rfl,rfl,by rw[s2] <;> rfl, .inr (.inr (.inr ⟨_,rfl,rfl⟩)), .inr (.inr (.inr ⟨_,rfl,rfl⟩))⟩
     ·have s1':q1p k (l.take (i + 1))=false:=by rw[s1,decide_eq_false hkx];rfl
      have eK:decide (z0i x.1=z0i k)=false:=decide_eq_false fun e=>by have:=z7y e;omega
      have e0:decide (0≤v7j x.1 k)=false:=by rw[v7j,if_pos (by omega)];rfl
      rw[s1',if_neg (by omega),if_neg (by omega),d3] at s2
      simp only[go_sem,z8a,q1,q2,q3,q6,q7,q8,q9,q10,hB,f3,f4,f5,z1o,hk',eK,z0a pc,e0,z7,j5,z1a]
      rw[show [AV.str (z0i x.1)]=z2s ([x].map fun p=>z0i p.1) from rfl]
      refine z9l (q:=4) hB rfl rfl ht.symm z0v z0v (by simp only[z1o,w0,y5];omega) fun L1 h1=> ?_
      rw[z5j]
      rcases h1 with rfl | rfl
      all_goals
       simp only[go_sem,q1,q2,q3,q6,q7,q8,q9,q10,hB,hv]
       rw[show [AV.str (z0i x.2)]=z2s ([x].map fun p=>z0i p.2) from rfl]
       refine z9l (q:=6) hB rfl rfl hu.symm z0v z0v (by simp only[z1o,w0,y5];omega) fun L2 h2=> ?_
       rw[z5j]
       rcases h2 with rfl | rfl
       all_goals
        simp only[go_sem,q1,q2,q3,q6,q7,q8,q9,q10,hB,hv,f2]
        refine⟨by simp[z1b,apart,z0j,z0z,z1d,AOp.isCall,hB,AV.ids,idsL,z0x] <;> first | exact⟨tn t ht 2 (by omega),tn t ht 0 (by omega)⟩ | exact tn t ht 2 (by omega) | exact tn t ht 0 (by omega), ?_⟩
        exact hnx _ ⟨g0,g1,g2,false,_,_,_,_,_,_,_,_,_,_,(by rw[if_pos hil2,s1']),q1,q2,q3,q6,q7,q8,q9,rfl,by rw[s2] <;> rfl, .inr (.inr (.inr ⟨_,rfl,rfl⟩)), .inr (.inr (.inr ⟨_,rfl,rfl⟩))⟩
  ·obtain rfl:i=l.length:=by omega
   have f4:decide ((l.length:Int) < (l.length:Int))=false:=by simp
   have f5:decide ((l.length:Int)=(l.length:Int))=true:=by simp
   have hs2:j3q z k w (l.take (l.length + 1)) true=j3q z k w (l.take l.length) true:=by rw[b7 (by omega),b7 (by omega)]
   have hfin:(true=if l.length + 1≤l.length then q1p k (l.take (l.length + 1)) else true):=by rw[if_neg (by omega)]
   cases put with
   | true=>
     have s2:=hs2
     simp only[go_sem,z8a,q1,q2,q3,q6,q7,q8,q9,q10,hB,f2,f3,f4,f5,decide_true,decide_false,z1o,z7,j5]
     exact hnx _ ⟨g0,g1,g2,true,_,_,_,_,_,_,_,_,_,_,hfin,q1,q2,q3,q6,q7,q8,q9,rfl,by rw[s2] <;> rfl,ht,hu⟩
   | false=>
     have s2:=hs2.trans (v2i (z:=z) (w:=w) hput.symm)
     rw[w7c] at s2
     by_cases hwz:w=z
     ·have eW:decide (z0i w=z0i z)=true:=decide_eq_true (by rw[hwz])
      rw[if_pos hwz,u5] at s2
      simp only[go_sem,z8a,q1,q2,q3,q6,q7,q8,q9,q10,hB,f2,f3,f4,f5,decide_true,decide_false,z1o,eW,z7,j5]
      exact hnx _ ⟨g0,g1,g2,true,_,_,_,_,_,_,_,_,_,_,hfin,q1,q2,q3,q6,q7,q8,rfl,rfl,by rw[s2] <;> rfl,ht,hu⟩
     ·have eW:decide (z0i w=z0i z)=false:=decide_eq_false fun e=>hwz (z7y e)
      rw[if_neg hwz] at s2
      have hv:=f5
      simp only[go_sem,z8a,q1,q2,q3,q6,q7,q8,q9,q10,hB,f3,f4,f5,decide_true,decide_false,z1o,eW,z7,j5,z1a]
      rw[show [AV.str (z0i k)]=z2s ([(k,w)].map fun p=>z0i p.1) from rfl]
      refine z9l (q:=8) hB rfl rfl ht z0v z0v (by simp only[z1o,w0,y5];omega) fun L1 h1=> ?_
      rw[z5j]
      rcases h1 with rfl | rfl
      all_goals
       simp only[go_sem,q1,q2,q3,q6,q7,q8,q9,q10,hB,hv]
       rw[show [AV.str (z0i w)]=z2s ([(k,w)].map fun p=>z0i p.2) from rfl]
       refine z9l (q:=10) hB rfl rfl hu z0v z0v (by simp only[z1o,w0,y5];omega) fun L2 h2=> ?_
       rw[z5j]
       rcases h2 with rfl | rfl
       all_goals
        simp only[go_sem,q1,q2,q3,q6,q7,q8,q9,q10,hB,z1a]
        refine⟨by simp[z1b,apart,z0j,z0z,z1d,AOp.isCall,hB,AV.ids,idsL,z0x] <;> first | exact⟨tn t ht 2 (by omega),tn t ht 0 (by omega)⟩ | exact tn t ht 2 (by omega) | exact tn t ht 0 (by omega), ?_⟩
        simp only[go_sem,q1,q2,q3,q6,q7,q8,q9,q10,hB,f2,f4,decide_true,decide_false,z1o,z7,j5]
        exact hnx _ ⟨g0,g1,g2,true,_,_,_,_,_,_,_,_,_,_,hfin,q1,q2,q3,q6,q7,q8,rfl,rfl,by rw[s2] <;> rfl, .inl (.inr (.inr ⟨_,rfl,rfl⟩)), .inl (.inr (.inr ⟨_,rfl,rfl⟩))⟩
 ·rintro f1 ts h clk P ⟨g0,g1,g2,put,t,u,o3,o4,o5,o6,o7,o8,o9,o10,hput,q1,q2,q3,q6,q7,q8,q9,q10,rfl,ht,hu⟩ he hr
  dsimp only at q1 q2 q3 q6 q7 q8 q9 q10
  rw[if_neg (by omega)] at hput
  subst hput
  have f3:decide (((l.length + 1:Nat):Int)≤(l.length:Int))=false:=by rw[z03];omega
  rw[b7 (by omega),w6f]
  simp only[go_sem,z8a,q1,q2,q3,q6,q7,q8,q9,q10,hB,f3,z1o]
  refine he _ _ ?_
  simp only[go_sem,q6,q7,q8,hB,z0m,z0l,z0f]
  rw[z0h rfl (by simp[z1j,AV.cv,cvL,AV.ids,idsL,z0x])]
  exact hT _
end
theorem v2l {b:Bool}:Pure Gam 283 [.bool b] (eV (.bool b)):=by
 refine Pure.of rfl y2u rfl rfl rfl rfl rfl fun D B clk T hB hT=> ?_
 rw[z4x] at hT
 simp only[go_sem,v6o,hB,z0m,z0l,z0f]
 rw[z2n rfl (by simp[AV.cv,cvL,AV.ids,idsL])]
 exact hT _
theorem v8c {a b:List (List Nat)} {u v:Tip} (hl:a.length≤2 ^ 40):Pure Gam 257 [.sl (z2s a) u, .sl (z2s b) v] (.bool (decide (a=b))):=by
 refine Pure.of rfl g4d rfl rfl rfl (az:=[.sl (z2s a) .no, .sl (z2s b) .no]) rfl (by simp[idsL,AV.ids,z0x]) fun D B clk T hB hT=> ?_
 have hla:(z2s a).length=a.length:=z6 _
 have hlb:(z2s b).length=b.length:=z6 _
 cases hlen:decide (a.length=b.length) with
 | true=>
   have hlen':a.length=b.length:=of_decide_eq_true hlen
   simp only[go_sem,u4a,hB,hla,hlb,q3v,hlen,z7]
   refine z3t a.length (by omega) (fun i q=>a.take i=b.take i∧q.ts 0= .sl (z2s a) .no∧q.ts 1= .sl (z2s b) .no∧q.ts 5= .int .i64 (i:Int)) ⟨by simp,rfl,rfl,rfl⟩ ?_ ?_
   ·rintro i hlt f1 f2 ts h clk P ⟨he0,q0,q1,q5⟩ hnx he hr
    dsimp only at q0 q1 q5
    have hlt2:i < b.length:=by omega
    cases hc:decide (a[i]=b[i]) with
    | true=>
      simp only[go_sem,k3b,q0,q1,q5,f1,f2,hla,z7s hlt,z7s hlt2,hc,z7]
      exact hnx _ ⟨y8j hlt hlt2 he0 (of_decide_eq_true hc),q0,q1,rfl⟩
    | false=>
      simp only[go_sem,k3b,q0,q1,q5,f1,f2,hla,z7s hlt,z7s hlt2,hc,j5]
      refine hr _ ?_
      rw[decide_eq_false fun e=>of_decide_eq_false hc (by subst e;rfl)] at hT
      simp only[go_sem,]
      rw[z0d]
      exact hT _
   ·rintro f1 ts h clk P ⟨he0,q0,q1,q5⟩ he hr
    dsimp only at q0 q1 q5
    simp only[go_sem,k3b,q0,q1,q5,f1,hla]
    refine he _ _ ?_
    rw[u4,hlen',u4] at he0
    rw[decide_eq_true he0] at hT
    simp only[go_sem,]
    rw[z0d]
    exact hT _
 | false=>
   simp only[go_sem,u4a,hB,hla,hlb,q3v,hlen,j5]
   rw[decide_eq_false fun e=>of_decide_eq_false hlen (by rw[e])] at hT
   rw[z0d]
   exact hT _
theorem y9l {m s:Nat} {a b:Val} (ha:VOk m s a) (hm:m≤330000):Pure Gam 205 [eV a,eV b] (.bool (v1i a b)):=by
 have hl:a.l.length≤330000:=by
  cases a with
  | bool b=>simp[Val.l]
  | num t q=>simp[Val.l]
  | arr z l=>have:=ha.2.2.2.2;simp only[Val.l];omega
 have p1:=v8c (a:=a.l.map fun p=>z0i p.1) (b:=b.l.map fun p=>z0i p.1) (u:= .no) (v:= .no) (by rw[z6];omega)
 have p2:=v8c (a:=a.l.map fun p=>z0i p.2) (b:=b.l.map fun p=>z0i p.2) (u:= .no) (v:= .no) (by rw[z6];omega)
 refine Pure.of rfl g4c rfl rfl rfl (az:=[eV a,eV b]) rfl (by simp[idsL,q1o]) fun D B clk T hB hT=> ?_
 rw[v1i] at hT
 have d1:decide ((a.s:Int)=(b.s:Int))=decide (a.s=b.s):=q3v
 cases c1:decide (a.s=b.s) <;> rw[c1] at hT d1
 ·simp only[go_sem,w6y,hB,eV,value,nat,d1]
  rw[z0d]
  exact hT _
 cases c2:decide (a.b=b.b) <;> rw[c2] at hT
 ·have c2':(a.b==b.b)=false:=by simpa using c2
  simp only[go_sem,w6y,hB,eV,value,nat,d1,c2,c2']
  rw[z0d]
  exact hT _
 have c2':(a.b==b.b)=true:=by simpa using c2
 cases c3:decide (a.t=b.t) <;> rw[c3] at hT
 ·simp only[go_sem,w6y,hB,eV,value,nat,d1,c2,c2',c3]
  rw[z0d]
  exact hT _
 cases c4:decide ((a.l.map fun p=>z0i p.1)=b.l.map fun p=>z0i p.1) <;> rw[c4] at hT p1
 ·simp only[go_sem,w6y,hB,eV,value,nat,d1,c2,c2',c3,z0a p1]
  rw[z0d]
  exact hT _
 simp only[go_sem,w6y,hB,eV,value,nat,d1,c2,c2',c3,z0a p1,z0a p2]
 rw[z0d]
 simpa using hT _
theorem v2m {m s:Nat} {v:Val} (h:VOk m s v) (hm:m≤330000):Pure Gam 174 [eV v] (eV v):=by
 have hl:v.l.length≤330000:=by
  cases v with
  | bool b=>simp[Val.l]
  | num t q=>simp[Val.l]
  | arr z l=>have:=h.2.2.2.2;simp only[Val.l];omega
 refine Pure.of rfl y2s rfl rfl rfl (az:=[eV v]) rfl (by simp[idsL,q1o]) fun D B clk T hB hT=> ?_
 rw[eV,value] at hT
 simp only[go_sem,v6n,hB,eV,value,nat,z1a]
 rw[append_nil hB rfl z0v (by rw[z1o];omega)]
 simp only[go_sem,hB]
 rw[append_nil hB rfl z0v (by rw[z1o];omega)]
 simp only[go_sem,hB,z0m,z0l,z0f]
 refine⟨by simp[z1b,apart,z0j,z0z,z1d,AOp.isCall,hB,AV.ids,idsL,z0x], ?_⟩
 rw[z2n rfl (by simp[AV.cv,cvL,AV.ids,idsL,z0x])]
 exact hT _
theorem v2n {m:Nat} {z i:Int} {l:List (Int×Int)} (hm:m≤330000) (h:VOk m 4 (.arr z l)) (hi:(dec i.natAbs).length≤19999999):Pure Gam 288 [eV (.arr z l), .str (z0i i)] (.str (z0i (atA z l i))):=by
 have p1:=x7h hm h
 rw[q3u] at p1
 obtain⟨_,hz,hs,hp,hlm⟩:=h
 refine Pure.of rfl y2y rfl rfl rfl (az:=[eV (.arr z l), .str (z0i i)]) rfl (by simp[idsL,q1o,AV.ids]) fun D B clk T hB hT=> ?_
 simp only[go_sem,v6r,hB,q3u,z0a p1,z9,z8,decide_true,decide_false,z7,j5,z0a (z8s (z:=i) (by omega))]
 refine z3t l.length (by omega) (fun j q=>∃ g0:Nat,(∀ p∈l.take j,p.1≠i)∧q.ts 1= .str (z0i i)∧q.ts 2= .ptr (B + 0) g0 0 0∧q.ts 5= .int .i64 (j:Int)∧q.h=D++[.blk g0 [.agg [.int .i64 4, .bool false, .str (z0i z), .sl (z2s (l.map fun p=>z0i p.1)) .no, .sl (z2s (l.map fun p=>z0i p.2)) .no]] false false 0]) ⟨_,by simp,rfl,rfl,rfl,rfl⟩ ?_ ?_
 ·rintro j hlt f1 f2 ts h clk P ⟨g0,hno,q1,q2,q5,rfl⟩ hnx he hr
  dsimp only at q1 q2 q5
  have hk:=fun h=>x7g (l:=l) (h:=h) (t:= .no) hlt
  have hv:=fun h=>j3j (l:=l) (h:=h) (t:= .no) hlt
  by_cases hki:l[j].1=i
  ·have e1:decide (z0i l[j].1=z0i i)=true:=decide_eq_true (by rw[hki])
   have hat:atA z l i=l[j].2:=by
    have:l.find? (fun p=>decide (p.1=i))=some l[j]:=by
     rw[List.find?_eq_some_iff_getElem]
     refine⟨by simp[hki],j,hlt,rfl,fun k hk=> ?_⟩
     have:=hno l[k] (List.mem_take_iff_getElem.2 ⟨k,by omega,rfl⟩)
     simp[this]
    rw[atA,this]
    rfl
   rw[hat] at hT
   simp only[go_sem,x0s,q1,q2,q5,hB,f1,z1o,hk,hv,e1]
   refine hr _ ?_
   simp only[go_sem,]
   rw[z3h]
   exact hT _
  ·have e1:decide (z0i l[j].1=z0i i)=false:=decide_eq_false fun e=>hki (z7y e)
   simp only[go_sem,x0s,q1,q2,q5,hB,f1,f2,z1o,hk,hv,e1]
   refine hnx _ ⟨g0,fun p hp=> ?_,q1,q2,rfl,rfl⟩
   rw[w8 hlt] at hp
   rcases j6.1 hp with hp | hp
   ·exact hno p hp
   ·rw[u7.1 hp];exact hki
 ·rintro f1 ts h clk P ⟨g0,hno,q1,q2,q5,rfl⟩ he hr
  dsimp only at q1 q2 q5
  have hat:atA z l i=z:=by
   rw[u4] at hno
   have:l.find? (fun p=>decide (p.1=i))=none:=by
    rw[List.find?_eq_none]
    intro p hp
    simp[hno p hp]
   rw[atA,this]
   rfl
  rw[hat] at hT
  simp only[go_sem,x0s,q1,q2,q5,hB,f1,z1o]
  refine he _ _ ?_
  simp only[go_sem,q2,hB]
  rw[z3h]
  exact hT _
theorem v2o {q:Qn} (h:q.R):Pure Gam 321 [.str q.text] (.str q.text):=by
 refine Pure.of rfl y3c rfl rfl rfl rfl rfl fun D B clk T hB hT=> ?_
 simp only[go_sem,v6t,hB,z0a (q8y h),z7]
 rw[z3h]
 exact hT _
theorem v2p {q:Qn} (h:q.R) (hn:q.neg=false):Pure Gam 313 [.str q.text] (.str q.text):=by
 have e:decide (q7g q < 0)=false:=by
  unfold q7g
  rw[hn]
  split <;> rfl
 refine Pure.of rfl y3b rfl rfl rfl rfl rfl fun D B clk T hB hT=> ?_
 simp only[go_sem,v6s,hB,z0a (x7d h),e,z0a (v2o h)]
 rw[z3h]
 exact hT _
def w6g (x y:Qn):Qn:=q3l (!(x.neg==y.neg)) (x.n * y.d) (x.d * y.n)
theorem v2q {x y:Qn} (hx:x.R) (hy:y.R) (h0:y.n≠0):Pure Gam 301 [.str x.text, .str y.text] (.str (w6g x y).text):=by
 have p1:=z7g hx
 have p2:=z7g hy
 have m1:=z9g (a:=x.n) (b:=y.d) hx.n hy.d
 have m2:=z9g (a:=x.d) (b:=y.n) hx.d hy.n
 have l1:=z6s hx.n hy.d
 have l2:=z6s hx.d hy.n
 have hpos:=Nat.mul_pos hx.c.pos (Nat.pos_of_ne_zero h0)
 have hl:=q8f (neg:= !(x.neg==y.neg)) l1 l2
 have f1:=x7b (neg:= !(x.neg==y.neg)) hpos (by omega) (by omega:(dec (x.d * y.n)).length≤_) (a:=x.n * y.d)
 have f2:=q8x (q:=q3l (!(x.neg==y.neg)) (x.n * y.d) (x.d * y.n)) (by have:=hl.n;omega) (by have:=hl.d;omega)
 have e1:decide (dec y.n=[48])=false:=by rw[z1r];simp[h0]
 unfold w6g
 refine Pure.of rfl y4n rfl rfl rfl rfl rfl fun D B clk T hB hT=> ?_
 simp only[go_sem,w3c,hB]
 rw[z0a p1]
 simp only[go_sem,hB,q0a]
 rw[z0a p2]
 simp only[go_sem,hB,q0a,z7,j5,e1,z1a,z0a m1,z0a m2]
 rw[z0a f1]
 simp only[go_sem,]
 rw[z0a f2]
 simp only[go_sem,]
 refine⟨by simp[z1b,apart,z0j,z0z,z1d,AOp.isCall,hB], ?_⟩
 rw[z3h]
 exact hT _
def x2a (q:Qn):Nat:=q.n / q.d + (if q.neg=true∧q.n % q.d≠0 then 1 else 0)
def k6h (q:Qn):Qn:=⟨q.neg && !decide (x2a q=0),x2a q,1⟩
theorem v2r {q:Qn} (h:q.R):Pure Gam 312 [.str q.text] (.str (k6h q).text):=by
 have hp:=z7g h
 rw[q0a] at hp
 have p2:=x6i (a:=q.n) (b:=q.d) h.c.pos (by have:=h.n;omega) (by have:=h.d;omega)
 have hl1:(dec (q.n / q.d)).length≤20000000:=j3e h.n
 have p3:Pure Gam 280 [.str (dec (q.n / q.d)), .str [49]] (.str (dec (q.n / q.d + 1))):=by
  have:=k4i (a:=q.n / q.d) (b:=1) (by omega) (by rw[z2h];simp)
  rwa [z2h] at this
 have p4:∀ neg m,(dec m).length≤20000001→Pure Gam 231 [.agg [.bool neg, .str (dec m), .str [49]]] (.str (z3o neg m 1)):=fun neg m hm=>by
  have:=q6z (neg:=neg) (n:=m) (d:=1) (by omega) (by rw[z2h];simp)
  rwa [q0a,z2h] at this
 have hl2:(dec (q.n / q.d + 1)).length≤20000001:=x6z (b:=1) hl1 (by rw[z2h];simp)
 refine Pure.of rfl y3a rfl rfl rfl rfl rfl fun D B clk T hB hT=> ?_
 have hT:∀ h',T (.str (z3o (q.neg && !decide (x2a q=0)) (x2a q) 1)) h':=hT
 unfold x2a at hT
 cases hn:q.neg <;> rw[hn] at hT hp
 ·rw[if_neg (by simp),l9,Bool.false_and] at hT
  simp only[go_sem,x9q,hB,z0a hp,z7,z0a p2,z0a (p4 false (q.n / q.d) (by omega))]
  rw[z3h]
  exact hT _
 ·cases hr:decide (q.n % q.d=0) with
  | true=>
    have e1:decide (dec (q.n % q.d)=[48])=true:=by rw[z1r,hr]
    rw[if_neg (by simp only[true_and,Classical.not_not];exact of_decide_eq_true hr),l9,Bool.true_and] at hT
    cases hm:decide (q.n / q.d=0) <;> rw[hm] at hT
    ·have e2:decide (dec (q.n / q.d)=[48])=false:=by rw[z1r,hm]
     simp only[go_sem,x9q,hB,z0a hp,z7,j5,z0a p2,e1,e2,z0a (p4 true (q.n / q.d) (by omega))]
     rw[z3h]
     exact hT _
    ·have e2:decide (dec (q.n / q.d)=[48])=true:=by rw[z1r,hm]
     simp only[go_sem,x9q,hB,z0a hp,z7,j5,z0a p2,e1,e2,z0a (p4 false (q.n / q.d) (by omega))]
     rw[z3h]
     exact hT _
  | false=>
    have e1:decide (dec (q.n % q.d)=[48])=false:=by rw[z1r,hr]
    rw[if_pos ⟨rfl,of_decide_eq_false hr⟩,Bool.true_and,show decide (q.n / q.d + 1=0)=false from rfl] at hT
    have e2:decide (dec (q.n / q.d + 1)=[48])=false:=by rw[z1r];rfl
    simp only[go_sem,x9q,hB,z0a hp,z7,j5,z0a p2,z0a p3,e1,e2,z0a (p4 true (q.n / q.d + 1) hl2)]
    rw[z3h]
    exact hT _
theorem k6i {z:Int} {k:Nat} (h1:1≤k) (h5:k≤5):k6h (w6g (z4g z) (z4g (k:Int)))=z4g (z / (k:Int)):=by
 have hk:decide ((k:Int) < 0)=false:=by simp
 have e:w6g (z4g z) (z4g (k:Int))=q3l (decide (z < 0)) z.natAbs k:=by
  simp only[w6g,z4g,hk,Nat.mul_one,Nat.one_mul,m8]
  cases decide (z < 0) <;> rfl
 rw[e]
 have hg:0 < y7 z.natAbs k:=Nat.gcd_pos_of_pos_right _ (by omega)
 obtain⟨a,ha⟩:=Nat.gcd_dvd_left z.natAbs k
 obtain⟨b,hb⟩:=Nat.gcd_dvd_right z.natAbs k
 have e1:(q3l (decide (z < 0)) z.natAbs k).n / (q3l (decide (z < 0)) z.natAbs k).d=z.natAbs / k:=by
  simp only[q3l]
  generalize y7 z.natAbs k=g at *
  rw[ha,hb,Nat.mul_div_cancel_left _ hg,Nat.mul_div_cancel_left _ hg,Nat.mul_div_mul_left _ _ hg]
 have e2:(q3l (decide (z < 0)) z.natAbs k).n % (q3l (decide (z < 0)) z.natAbs k).d=0↔z.natAbs % k=0:=by
  simp only[q3l]
  generalize y7 z.natAbs k=g at *
  rw[ha,hb,Nat.mul_div_cancel_left _ hg,Nat.mul_div_cancel_left _ hg,Nat.mul_mod_mul_left]
  constructor
  ·intro h;rw[h,Nat.mul_zero]
  ·intro h;exact (Nat.mul_eq_zero.1 h).resolve_left (by omega)
 have e3:(q3l (decide (z < 0)) z.natAbs k).neg=decide (z < 0):=by
  simp only[q3l]
  by_cases hz:z < 0
  ·have:z.natAbs / y7 z.natAbs k≠0:=by
    have:=Nat.div_pos (Nat.gcd_le_left k (show 0 < z.natAbs by omega)) hg
    omega
   simp[hz,this]
  ·simp[hz]
 have e4:x2a (q3l (decide (z < 0)) z.natAbs k)=(z / (k:Int)).natAbs:=by
  unfold x2a
  rw[e1,e3]
  simp only[ne_eq,e2,decide_eq_true_eq]
  rcases (by omega:k=1∨k=2∨k=3∨k=4∨k=5) with rfl | rfl | rfl | rfl | rfl <;> split <;> omega
 unfold k6h z4g
 rw[e4,e3]
 have:(decide (z < 0) && !decide ((z / (k:Int)).natAbs=0))=decide (z / (k:Int) < 0):=by
  by_cases hz:z < 0
  ·have hq:z / (k:Int) < 0:=Int.ediv_neg_of_neg_of_pos hz (by omega)
   have:(z / (k:Int)).natAbs≠0:=by omega
   simp[hz,hq];omega
  ·have hq:¬ z / (k:Int) < 0:=by have:=Int.ediv_nonneg (show 0≤z by omega) (show (0:Int)≤k by omega);omega
   simp[hz,hq]
 rw[this]
theorem y9m {x y:Qn} (hx:(dec x.n).length + (dec y.d).length≤20000000) (hy:(dec x.d).length + (dec y.n).length≤20000000) (h:0 < x.d * y.n):(w6g x y).R:=by
 have hl:=q8f (neg:= !(x.neg==y.neg)) (z6s (j8 (dec x.n).length) (j8 (dec y.d).length)) (z6s (j8 (dec x.d).length) (j8 (dec y.n).length))
 exact⟨j6n h,w9 hl.n hx,w9 hl.d hy⟩
theorem j7k {z:Int} {k:Nat} (hz:(dec z.natAbs).length≤19999990) (h1:1≤k) (h5:k≤5):Pure Gam 286 [.str (z0i z), .str (dec k)] (.str (z0i (z / (k:Int)))):=by
 have hkl:(dec k).length≤1:=by rw[z7c (by omega)];simp
 have ek:(z4g (k:Int)).text=dec k:=by rw[z1z,z0i,if_neg (by omega),m8]
 have hkr:(z4g (k:Int)).R:=q3t (by rw[m8];omega)
 have hzr:(z4g z).R:=q3t (by omega)
 have d1:(dec 1).length=1:=by rw[z2h];rfl
 have hdr:(w6g (z4g z) (z4g (k:Int))).R:=y9m (by show (dec z.natAbs).length + (dec 1).length≤_;omega) (by show (dec 1).length + (dec (k:Int).natAbs).length≤_;rw[m8];omega) (by show 0 < 1 * (k:Int).natAbs;rw[m8];omega)
 have p1:=z8s (z:=z) (by omega)
 have p2:=x7c hkr
 have p3:=v2p hkr (by simp[z4g])
 have p4:=v2q hzr hkr (by show (k:Int).natAbs≠0;rw[m8];omega)
 have p5:=v2r hdr
 have p6:=x7d hkr
 rw[k6i h1 h5,z1z] at p5
 rw[z1z] at p4
 rw[ek] at p2 p3 p4 p6
 rw[show decide ((z4g (k:Int)).d=1)=true from rfl] at p2
 have e1:decide (dec k=[48])=false:=by rw[z1r];simp;omega
 have e2:decide (q7g (z4g (k:Int)) < 0)=false:=by
  unfold q7g z4g
  dsimp only
  rw[if_neg (by omega),if_neg (by simp)]
  rfl
 refine Pure.of rfl y2v rfl rfl rfl rfl rfl fun D B clk T hB hT=> ?_
 simp only[go_sem,v6p,hB,z0a p1,z0a p2,z7,e1,z0a p3,z0a p4,z0a p5,z0a p6,e2]
 rw[z3h]
 exact hT _
theorem v2s {z:Int} {k:Nat} (hz:(dec z.natAbs).length≤19999900) (h1:1≤k) (h5:k≤5):Pure Gam 287 [.str (z0i z), .str (dec k)] (.str (z0i (z % (k:Int)))):=by
 have hkl:(dec k).length≤1:=by rw[z7c (by omega)];simp
 have ek:(z4g (k:Int)).text=dec k:=by rw[z1z,z0i,if_neg (by omega),m8]
 have hkr:(z4g (k:Int)).R:=q3t (by rw[m8];omega)
 have hql:(dec (z / (k:Int)).natAbs).length≤19999900:=w9 (z5a (Int.natAbs_ediv_le_natAbs z k)) hz
 have p1:=j7k (z:=z) (by omega) h1 h5
 have p2:=j6w hkr (q3t (z:=z / (k:Int)) (by omega))
 rw[j6q,ek,z1z,z1z] at p2
 have hml:(dec ((k:Int) * (z / (k:Int))).natAbs).length≤19999901:=by
  rw[Int.natAbs_mul,m8]
  exact w9 (z6s hkl hql) (by omega)
 have p3:=j6u (q3t (z:=z) (by omega)) (q3t (z:=(k:Int) * (z / (k:Int))) (by omega))
 rw[x7f,z1z,z1z,z1z,←Int.emod_def] at p3
 have e1:decide (z0i (z / (k:Int))=[])=false:=by
  rw[z03]
  unfold z0i
  split
  ·simp
  ·exact z7x _
 refine Pure.of rfl y2w rfl rfl rfl rfl rfl fun D B clk T hB hT=> ?_
 simp only[go_sem,v6q,hB,z0a p1,e1,z0a p2,z0a p3]
 rw[z3h]
 exact hT _
section
variable {h:List AObj} {v:Val} {l:List AV} {a b:AV} {t:Tip} {k:IntKind}
theorem q6k:z1m h 5 (.sl (eV v::l) t) (.int k 0)=some (.iptr [nat v.s, .bool v.b, .str v.t, .sl (z2s (v.l.map fun p=>z0i p.1)) .no, .sl (z2s (v.l.map fun p=>z0i p.2)) .no] 0,h):=z4a (i:=0) (e:=eV v) rfl rfl
theorem x7s:z1m h 5 (.sl (a::eV v::l) t) (.int k 1)=some (.iptr [nat v.s, .bool v.b, .str v.t, .sl (z2s (v.l.map fun p=>z0i p.1)) .no, .sl (z2s (v.l.map fun p=>z0i p.2)) .no] 0,h):=z4a (i:=1) (e:=eV v) rfl rfl
theorem y9n:z1m h 5 (.sl (a::b::eV v::l) t) (.int k 2)=some (.iptr [nat v.s, .bool v.b, .str v.t, .sl (z2s (v.l.map fun p=>z0i p.1)) .no, .sl (z2s (v.l.map fun p=>z0i p.2)) .no] 0,h):=z4a (i:=2) (e:=eV v) rfl rfl
theorem k6j {vs:List Val} {i:Nat} (hi:i < vs.length):z1m h 5 (.sl (vs.map eV) t) (.int k (i:Int))=some (.iptr [nat vs[i].s, .bool vs[i].b, .str vs[i].t, .sl (z2s (vs[i].l.map fun p=>z0i p.1)) .no, .sl (z2s (vs[i].l.map fun p=>z0i p.2)) .no] 0,h):=z3a hi rfl rfl
end
theorem z5z {vs:List Val}:idsL (vs.map eV)=[]:=z0c q1o
theorem x2x (b:Bool):Pure Gam 283 [.bool b] (.agg [.int .i64 1, .bool b, .str [], .sl [] .no, .sl [] .no]):=v2l
theorem k6k {v:Val} {u:Tip}:Pure Gam 289 [.int .i64 6, .sl [eV v] u] (eV (.bool (!v.b))):=by
 refine Pure.of rfl k3d rfl rfl rfl (az:=[.int .i64 6, .sl [eV v] .no]) rfl (by simp[idsL,AV.ids,q1o]) fun D B clk T hB hT=> ?_
 rw[z4x] at hT
 simp only[go_sem,x9p,hB,q6k,z8,decide_true,decide_false,z0a (x2x _),z0m,z0l,z0f]
 rw[z2n rfl (by simp[AV.cv,cvL,AV.ids,idsL])]
 exact hT _
theorem k6l {v w:Val} {u:Tip}:Pure Gam 289 [.int .i64 9, .sl [eV v,eV w] u] (eV (.bool (!v.b || w.b))):=by
 refine Pure.of rfl k3d rfl rfl rfl (az:=[.int .i64 9, .sl [eV v,eV w] .no]) rfl (by simp[idsL,AV.ids,q1o]) fun D B clk T hB hT=> ?_
 rw[z4x] at hT
 cases hv:v.b <;> rw[hv] at hT
 ·simp only[go_sem,x9p,hB,q6k,x7s,hv,z8,decide_true,decide_false,j5,z0a (x2x _),z0m,z0l,z0f]
  rw[z2n rfl (by simp[AV.cv,cvL,AV.ids,idsL])]
  exact hT _
 ·simp only[go_sem,x9p,hB,q6k,x7s,hv,z8,decide_true,decide_false,z7,z0a (x2x _),z0m,z0l,z0f]
  rw[z2n rfl (by simp[AV.cv,cvL,AV.ids,idsL])]
  exact hT _
theorem x4x {o:Nat} {vs:List Val} {u:Tip} (ho:o=7∨o=8) (hl:vs.length≤2 ^ 40):Pure Gam 289 [.int .i64 (o:Int), .sl (vs.map eV) u] (eV (.bool (if o=8 then vs.any Val.b else vs.all Val.b))):=by
 refine Pure.of rfl k3d rfl rfl rfl (az:=[.int .i64 (o:Int), .sl (vs.map eV) .no]) rfl (by simp[idsL,AV.ids,z5z]) fun D B clk T hB hT=> ?_
 rw[z4x] at hT
 have o6:decide ((o:Int)=6)=false:=by rw[z03];omega
 have o9:decide ((o:Int)=9)=false:=by rw[z03];omega
 have o7:decide ((o:Int)=7)= !decide (o=8):=by rcases ho with rfl | rfl <;> rfl
 have o8:decide ((o:Int)=8)=decide (o=8):=by rcases ho with rfl | rfl <;> rfl
 simp only[go_sem,x9p,hB,o6,o9]
 refine z3t vs.length (by omega) (fun i q=>∃ g:Nat,(∀ v∈vs.take i,v.b= !decide (o=8))∧q.ts 0= .int .i64 (o:Int)∧q.ts 1= .sl (vs.map eV) .no∧q.ts 4= .ptr (B + 0) g 0 0∧q.ts 5= .int .i64 (i:Int)∧q.h=D++[.blk g [.agg [.int .i64 0, .bool false, .str [], .sl [] .nil, .sl [] .nil]] false false 0]) ⟨_,by simp,rfl,rfl,rfl,rfl,rfl⟩ ?_ ?_
 ·rintro i hlt f1 f2 ts h clk P ⟨g,hno,q0,q1,q4,q5,rfl⟩ hnx he hr
  dsimp only at q0 q1 q4 q5
  have hx:=fun h=>k6j (h:=h) (t:= .no) (k:= .i64) hlt
  by_cases hb:vs[i].b=decide (o=8)
  ·have hres:(if o=8 then vs.any Val.b else vs.all Val.b)=decide (o=8):=by
    split
    ·rename_i h8
     rw[decide_eq_true h8] at hb⊢
     exact List.any_eq_true.2 ⟨_,j9 hlt,hb⟩
    ·rename_i h8
     rw[decide_eq_false h8] at hb⊢
     exact List.all_eq_false.2 ⟨_,j9 hlt,by simp[hb]⟩
   rw[hres] at hT
   have e1:(decide (o=8)==decide (o=8))=true:=by simp
   have e2:decide (decide (o=8)=decide (o=8))=true:=by simp
   simp only[go_sem,x0t,q0,q1,q4,q5,hB,f1,z6,hx,hb,o8,e1,e2,z0a (x2x _)]
   refine hr _ ?_
   simp only[go_sem,q4,hB,z0m,z0l,z0f]
   rw[z2n rfl (by simp[AV.cv,cvL,AV.ids,idsL])]
   exact hT _
  ·have e1:(vs[i].b==decide (o=8))=false:=by simpa using hb
   simp only[go_sem,x0t,q0,q1,q4,q5,hB,f1,f2,z6,hx,o8,e1]
   refine hnx _ ⟨g,fun v hv=> ?_,q0,q1,q4,rfl,rfl⟩
   rw[w8 hlt] at hv
   rcases j6.1 hv with hv | hv
   ·exact hno v hv
   ·rw[u7.1 hv]
    cases h:vs[i].b <;> cases h':decide (o=8) <;> simp[h,h'] at hb⊢
 ·rintro f1 ts h clk P ⟨g,hno,q0,q1,q4,q5,rfl⟩ he hr
  dsimp only at q0 q1 q4 q5
  rw[u4] at hno
  have hres:(if o=8 then vs.any Val.b else vs.all Val.b)= !decide (o=8):=by
   split
   ·rename_i h8
    rw[decide_eq_true h8] at hno⊢
    exact List.any_eq_false.2 fun v hv=>by simp[hno v hv]
   ·rename_i h8
    rw[decide_eq_false h8] at hno⊢
    exact List.all_eq_true.2 fun v hv=>by simp[hno v hv]
  rw[hres] at hT
  simp only[go_sem,x0t,q0,q1,q4,q5,hB,f1,z6]
  refine he _ _ ?_
  simp only[go_sem,q0,q4,hB,o7,z0a (x2x _),z0m,z0l,z0f]
  rw[z2n rfl (by simp[AV.cv,cvL,AV.ids,idsL])]
  exact hT _
section
def eB (p:List Nat×Val):AV:= .agg [.str p.1,nat p.2.s, .bool p.2.b, .str p.2.t, .sl (z2s (p.2.l.map fun q=>z0i q.1)) .no, .sl (z2s (p.2.l.map fun q=>z0i q.2)) .no]
def evO (T:Term) (env:List (List Nat×Val)):AV:= .agg [.sl (T.map eNode) .no, .sl (env.map eB) .no, .sl [] .no]
theorem q1q (p:List Nat×Val):(eB p).ids=[]:=by simp[eB,AV.ids,idsL,z0x,nat]
theorem k6m {T:Term} {env:List (List Nat×Val)}:(evO T env).ids=[]:=by simp[evO,AV.ids,idsL,z0c z1v,z0c q1q]
theorem y9o {env:List (List Nat×Val)} {i:Nat} {h:List AObj} {t:Tip} {k:IntKind} (hi:i < env.length):z1m h 6 (.sl (env.map eB) t) (.int k (i:Int))=some (.iptr [.str env[i].1,nat env[i].2.s, .bool env[i].2.b, .str env[i].2.t, .sl (z2s (env[i].2.l.map fun q=>z0i q.1)) .no, .sl (z2s (env[i].2.l.map fun q=>z0i q.2)) .no] 0,h):=z3a hi rfl rfl
theorem VsOk.take {ss:List Nat} {M:Nat} {vs:List Val} (h:VsOk ss M vs):∀ i,VsOk (ss.take i) M (vs.take i):=by
 induction h with
 | nil=>intro i;simp only[List.take_nil];exact .nil
 | @cons m M2 s ss v vs h hr ih=>
   intro i
   cases i with
   | zero=>exact .nil
   | succ i=>exact .cons h (ih i)
theorem k6n {vs:List Val} {q:Qn} {v:Val}:j3g (vs++[v]) q=j6p (j3g vs q) v.q:=by simp[j3g]
theorem w6h {q:Qn}:decide (q7g q≤0)=(q.neg || decide (q.n=0)):=by
 unfold q7g
 by_cases h:q.n=0
 ·simp[h]
 ·cases hq:q.neg <;> simp[h]
theorem w6i {q:Qn} (hc:q.C):decide (q7g q < 0)=q.neg:=by
 unfold q7g
 by_cases h:q.n=0
 ·cases hq:q.neg
  ·simp[h]
  ·exact absurd h (hc.neg hq)
 ·cases hq:q.neg <;> simp[h]
section
variable {K:Nat} {V:List Var} {env:List (List Nat×Val)} {T:Term} {n:Node} {ss:List Nat} {s M:Nat} {ks:Term} {vs:List Val} {sl g:Nat} {u:Tip}
theorem k6o (he:q7f K V env) (hel:env.length≤1000) (hn:NodeOk V n ss s ks) (hv:VsOk ss M vs) (hvl:vs.length≤100000) (hM:M + K≤330000):Reads [(sl, .blk g [evO T env] false false 0)] 236 [.ptr sl g 0 0,eNode n, .sl (vs.map eV) u] (.tup [eV (nodeF env n vs), .int .i64 0]):=by
 have hlen:=hv.len
 refine Reads.of rfl y2t rfl rfl rfl (az:=[.ptr sl g 0 0,eNode n, .sl (vs.map eV) .no]) rfl (by simpa [idsL,AV.ids,z1v,z5z] using Cov.one (s:=sl) (o:= .blk g [evO T env] false false 0) (by simp[AObj.ids,idsL,k6m])) fun D B clk T' hB hS hlt hT=> ?_
 have h1:=hlt (sl, .blk g [evO T env] false false 0) (by simp)
 have b1:=z2g (g:=g) (hS (sl, .blk g [evO T env] false false 0) (by simp))
 dsimp only at h1 b1
 obtain⟨hK,he⟩:=he
 cases hn with
 | bool h=>
   rcases h with rfl | rfl
   ·rw[show nodeF env (bare 1 0) vs= .bool true by simp[nodeF,bare],z4x] at hT
    simp only[go_sem,z6b,hB,eNode,nat,bare,z9,z8,decide_true,decide_false,z0a (x2x _),z0m,z0l,z0f]
    rw[z0h rfl (by simp[z1j,AV.cv,cvL,AV.ids,idsL])]
    exact hT _ hS.app
   ·rw[show nodeF env (bare 2 0) vs= .bool false by simp[nodeF,bare],z4x] at hT
    simp only[go_sem,z6b,hB,eNode,nat,bare,z9,z8,decide_true,decide_false,z0a (x2x _),z0m,z0l,z0f]
    rw[z0h rfl (by simp[z1j,AV.cv,cvL,AV.ids,idsL])]
    exact hT _ hS.app
 | int h=>
   have hq:=j3f (j3h (s:=2) h)
   rename_i a
   rw[show nodeF env ⟨3,2,[],a,0⟩ vs= .num 2 (v1g 2 a) by simp[nodeF],q6g,hq.2.1] at hT
   simp only[go_sem,z6b,hB,eNode,nat,z9,z8,decide_true,decide_false,z0m,z0l,z0f]
   rw[z0h rfl (by simp[z1j,AV.cv,cvL,AV.ids,idsL,z0x])]
   exact hT _ hS.app
 | real h=>
   have hq:=j3f (j6s h)
   rename_i a
   rw[show nodeF env ⟨3,3,[],a,0⟩ vs= .num 3 (v1g 3 a) by simp[nodeF],q6g,hq.2.1] at hT
   simp only[go_sem,z6b,hB,eNode,nat,z9,z8,decide_true,decide_false,z0m,z0l,z0f]
   rw[z0h rfl (by simp[z1j,AV.cv,cvL,AV.ids,idsL,z0x])]
   exact hT _ hS.app
 | @var v ks h=>
   obtain⟨w,hw,hok⟩:=he v h
   rw[show nodeF env ⟨4,v.sort,v.name,[],0⟩ vs=w by simp[nodeF,w5c,hw],eV,value] at hT
   obtain⟨j,hj,hjw,hjn⟩:∃ (j:Nat) (hj:j < env.length),env[j]=(v.name,w)∧∀ k (hk:k < j),env[k].1≠v.name:=by
    rw[List.find?_eq_some_iff_getElem] at hw
    obtain⟨_,j,hj,e,hno⟩:=hw
    exact⟨j,hj,e,fun k hk e2=>by have:=hno k hk;simp[e2] at this⟩
   simp only[go_sem,z6b,hB,eNode,nat,z9,z8,decide_true,decide_false,z0m,z0l,z0f]
   refine z3t env.length (by omega) (fun i q=>∃ g4 g6:Nat,i≤j∧q.ts 0= .ptr sl g 0 0∧q.ts 4= .ptr (B + 0) g4 0 0∧q.ts 6= .ptr (B + 1) g6 0 0∧q.ts 8= .int .i64 (i:Int)∧q.h=D++[.blk g4 [.agg [.int .i64 4, .int .i64 (v.sort:Int), .str v.name, .str [], .int .i64 0]] false false 0, .blk g6 [.agg [.int .i64 0, .bool false, .str [], .sl [] .nil, .sl [] .nil]] false false 0]) ⟨_,_,Nat.zero_le _,rfl,rfl,rfl,rfl,rfl⟩ ?_ ?_
   ·rintro i hlt f1 f2 ts h clk P ⟨g4,g6,hij,q0,q4,q6,q8,rfl⟩ hnx hex hr
    dsimp only at q0 q4 q6 q8
    have hx:=fun h=>y9o (h:=h) (t:= .no) (k:= .i64) hlt
    by_cases hi:i=j
    ·subst hi
     rw[hjw] at hx
     have e1:decide (v.name=v.name)=true:=by simp
     have e2:decide ((w.s:Int)=(v.sort:Int))=true:=by rw[hok.s];simp
     simp only[go_sem,x5y,evO,nat,q0,q4,q6,q8,hB,f1,z2x hB h1,b1,z6,hx,e1,e2,decide_true,z7]
     refine hr _ ?_
     simp only[go_sem,q6,hB,z0m,z0l,z0f]
     rw[z0h rfl (by simp[z1j,AV.cv,cvL,AV.ids,idsL,z0x])]
     exact hT _ hS.app
    ·have e1:decide (env[i].1=v.name)=false:=decide_eq_false (hjn i (by omega))
     simp only[go_sem,x5y,evO,nat,q0,q4,q6,q8,hB,f1,f2,z2x hB h1,b1,z6,hx,e1]
     exact hnx _ ⟨g4,g6,by omega,q0,q4,q6,rfl,rfl⟩
   ·rintro f1 ts h clk P ⟨g4,g6,hij,q0,q4,q6,q8,rfl⟩ hex hr
    omega
 | not=>
   obtain⟨v,rfl,hu⟩:=hv.one
   rw[show nodeF env (bare 6 1) [v]= .bool (!v.b) by simp[nodeF,bare,at0],z4x] at hT
   have p:=k6k (v:=v) (u:= .no)
   rw[z4x] at p
   simp only[go_sem,z6b,hB,eNode,nat,bare,k8,w7,z9,z8,decide_true,decide_false,z0m,z0l,z0f,z0a p]
   rw[z0h rfl (by simp[z1j,AV.cv,cvL,AV.ids,idsL,z0x])]
   exact hT _ hS.app
 | @andor o k ks h=>
   rcases h with rfl | rfl
   ·rw[show nodeF env (bare 7 k) vs= .bool (vs.all Val.b) by simp[nodeF,bare],z4x] at hT
    have p:=x4x (o:=7) (vs:=vs) (u:= .no) (.inl rfl) (by omega)
    rw[z4x,if_neg (by omega)] at p
    simp only[z9] at p
    simp only[go_sem,z6b,hB,eNode,nat,bare,z9,z8,decide_true,decide_false,z0m,z0l,z0f,z0a p]
    rw[z0h rfl (by simp[z1j,AV.cv,cvL,AV.ids,idsL,z0x])]
    exact hT _ hS.app
   ·rw[show nodeF env (bare 8 k) vs= .bool (vs.any Val.b) by simp[nodeF,bare],z4x] at hT
    have p:=x4x (o:=8) (vs:=vs) (u:= .no) (.inr rfl) (by omega)
    rw[z4x,if_pos rfl] at p
    simp only[z9] at p
    simp only[go_sem,z6b,hB,eNode,nat,bare,z9,z8,decide_true,decide_false,z0m,z0l,z0f,z0a p]
    rw[z0h rfl (by simp[z1j,AV.cv,cvL,AV.ids,idsL,z0x])]
    exact hT _ hS.app
 | imp=>
   obtain⟨v,w,m,m',rfl,hu,hw,e⟩:=hv.two
   rw[show nodeF env (bare 9 2) [v,w]= .bool (!v.b || w.b) by simp[nodeF,bare,at0],z4x] at hT
   have p:=k6l (v:=v) (w:=w) (u:= .no)
   rw[z4x] at p
   simp only[go_sem,z6b,hB,eNode,nat,bare,k8,w7,z9,z8,decide_true,decide_false,z0m,z0l,z0f,z0a p]
   rw[z0h rfl (by simp[z1j,AV.cv,cvL,AV.ids,idsL,z0x])]
   exact hT _ hS.app
 | ite h1 h2=>
   obtain⟨v,w,x,m,m',m'',rfl,hu,hw,hx,e⟩:=hv.three
   cases hb:v.b
   ·rw[show nodeF env (bare 10 3) [v,w,x]=x by simp[nodeF,bare,at0,hb],eV,value] at hT
    simp only[go_sem,z6b,hB,eNode,nat,bare,k8,w7,q6k,y9n,hb,z9,z8,decide_true,decide_false,z0m,z0l,z0f]
    rw[z0h rfl (by simp[z1j,AV.cv,cvL,AV.ids,idsL,z0x])]
    exact hT _ hS.app
   ·rw[show nodeF env (bare 10 3) [v,w,x]=w by simp[nodeF,bare,at0,hb],eV,value] at hT
    simp only[go_sem,z6b,hB,eNode,nat,bare,k8,w7,q6k,x7s,hb,z9,z8,decide_true,decide_false,z0m,z0l,z0f]
    rw[z0h rfl (by simp[z1j,AV.cv,cvL,AV.ids,idsL,z0x])]
    exact hT _ hS.app
 | eq h1 h2=>
   obtain⟨v,w,m,m',rfl,hu,hw,e⟩:=hv.two
   rw[show nodeF env (bare 11 2) [v,w]= .bool (v1i v w) by simp[nodeF,bare,at0],z4x] at hT
   have p:=y9l (a:=v) (b:=w) hu (by omega)
   simp only[eV,value,nat] at p
   simp only[go_sem,z6b,hB,eNode,nat,bare,k8,w7,q6k,x7s,z9,z8,decide_true,decide_false,z0m,z0l,z0f,z0a p,z0a (x2x _)]
   rw[z0h rfl (by simp[z1j,AV.cv,cvL,AV.ids,idsL,z0x])]
   exact hT _ hS.app
 | cmp h hs=>
   obtain⟨v,w,m,m',rfl,hu,hw,e⟩:=hv.two
   obtain⟨q,rfl,q1,q2,q3⟩:=hu.numb hs
   obtain⟨r,rfl,r1,r2,r3⟩:=hw.numb hs
   have hqr:=q2.r q1 (by omega) (by omega)
   have hrr:=r2.r r1 (by omega) (by omega)
   have hsl:=v7i (M:=54 * (m + m')) q2 (y8a r2) (by omega) (by omega)
   have hsr:(k7b q r).R:=hsl.r (v7h q1 (v7g r1)) (by omega) (by omega)
   have p:=j6v hqr hrr hsr
   rcases h with rfl | rfl
   ·have hd:=w6h (q:=k7b q r)
    rename_i s
    rw[show nodeF env (bare 12 2) [.num s q, .num s r]= .bool (leQ q r) by simp[nodeF,bare,at0,Val.q],z4x,leQ,←hd] at hT
    simp only[go_sem,z6b,hB,eNode,nat,bare,k8,w7,q6k,x7s,Val.s,Val.b,Val.t,Val.l,z9,z8,decide_true,decide_false,z0m,z0l,z0f,z0a p,z0a (x2x _)]
    rw[z0h rfl (by simp[z1j,AV.cv,cvL,AV.ids,idsL,z0x])]
    exact hT _ hS.app
   ·have hd:=w6i hsr.c
    rename_i s
    rw[show nodeF env (bare 13 2) [.num s q, .num s r]= .bool (ltQ q r) by simp[nodeF,bare,at0,Val.q],z4x,ltQ,←hd] at hT
    simp only[go_sem,z6b,hB,eNode,nat,bare,k8,w7,q6k,x7s,Val.s,Val.b,Val.t,Val.l,z9,z8,decide_true,decide_false,z0m,z0l,z0f,z0a p,z0a (x2x _)]
    rw[z0h rfl (by simp[z1j,AV.cv,cvL,AV.ids,idsL,z0x])]
    exact hT _ hS.app
 | @add k s ks h hs=>
   have d1:(dec 1).length=1:=by rw[z2h];rfl
   have d0:(dec 0).length=1:=by rw[z9u];rfl
   have hsum:∀ i,(j3g (vs.take i) (z4g 0)).R:=fun i=>by
    have h:=hv.take i
    rw[List.take_replicate] at h
    obtain⟨a1,a2,_⟩:=k5k hs (q:=z4g 0) (P:=0) h x4p ⟨by show (dec 0).length≤_;omega,by show (dec 1).length≤_;omega⟩ fun _=>rfl
    exact a2.r a1 (by omega) (by omega)
   have hel2:∀ i (hi:i < vs.length),∃ q,vs[i]= .num s q∧q.R:=fun i hi=>by
    obtain⟨m,h1,h2⟩:=hv.rep _ (j9 hi)
    obtain⟨q,e,q1,q2,_⟩:=h1.numb hs
    exact⟨q,e,q2.r q1 (by omega) (by omega)⟩
   have hl0:0 < vs.length:=by rw[hlen];simp;omega
   obtain⟨q0,hq0,_⟩:=hel2 0 hl0
   have hN:nodeF env (bare 14 k) vs= .num s (j3g vs (z4g 0)):=by
    have:(at0 vs 0).s=s:=by
     have e:at0 vs 0=vs[0]:=by simp[at0,hl0]
     rw[e,hq0]
     rfl
    simp[nodeF,bare,this,j3g]
   rw[hN,q6g] at hT
   have h48:(j3g (vs.take 0) (z4g 0)).text=[48]:=by
    show (z4g 0).text=_
    rw[z1z,z0i,if_neg (by omega)]
    exact z9u
   have hx0:∀ h,z1m h 5 (.sl (vs.map eV) .no) (.int .i64 0)=some (.iptr [nat vs[0].s, .bool vs[0].b, .str vs[0].t, .sl (z2s (vs[0].l.map fun p=>z0i p.1)) .no, .sl (z2s (vs[0].l.map fun p=>z0i p.2)) .no] 0,h):=fun h=>k6j (i:=0) hl0
   rw[hq0] at hx0
   simp only[go_sem,z6b,hB,eNode,nat,bare,z9,z8,decide_true,decide_false,z0m,z0l,z0f]
   refine z3t vs.length (by omega) (fun i q=>∃ g4 g6:Nat,∃ c4:AV,q.ts 2= .sl (vs.map eV) .no∧q.ts 4= .ptr (B + 0) g4 0 0∧q.ts 6= .ptr (B + 1) g6 0 0∧q.ts 9= .str (j3g (vs.take i) (z4g 0)).text∧q.ts 10= .int .i64 (i:Int)∧q.h=D++[.blk g4 [c4] false false 0, .blk g6 [.agg [.int .i64 0, .bool false, .str [], .sl [] .nil, .sl [] .nil]] false false 0]) ⟨_,_,_,rfl,rfl,rfl,by rw[h48];rfl,rfl,rfl⟩ ?_ ?_
   ·rintro i hlt f1 f2 ts h clk P ⟨g4,g6,c4,q2,q4,q6,q9,q10,rfl⟩ hnx hex hr
    dsimp only at q2 q4 q6 q9 q10
    have hx:=fun h=>k6j (h:=h) (t:= .no) (k:= .i64) hlt
    obtain⟨q,hq,hqr⟩:=hel2 i hlt
    rw[hq] at hx
    have p:=j6t (hsum i) hqr
    have e8:j6p (j3g (vs.take i) (z4g 0)) q=j3g (vs.take (i + 1)) (z4g 0):=by
     rw[w8 hlt,k6n,hq]
     rfl
    rw[e8] at p
    simp only[go_sem,x0r,nat,q2,q4,q6,q9,q10,hB,f1,f2,z6,hx,Val.s,Val.b,Val.t,Val.l,z0a p]
    exact hnx _ ⟨g4,g6,c4,q2,q4,q6,rfl,rfl,rfl⟩
   ·rintro f1 ts h clk P ⟨g4,g6,c4,q2,q4,q6,q9,q10,rfl⟩ hex hr
    dsimp only at q2 q4 q6 q9 q10
    rw[u4] at q9
    simp only[go_sem,x0r,q2,q4,q6,q9,q10,hB,f1,z6]
    refine hex _ _ ?_
    simp only[go_sem,q2,q6,q9,hB,nat,hx0,Val.s,Val.b,Val.t,Val.l,z9,z8,decide_true,decide_false,z0m,z0l,z0f]
    rw[z0h rfl (by simp[z1j,AV.cv,cvL,AV.ids,idsL,z0x])]
    exact hT _ hS.app
 | @mul s n ks hs hn=>
   obtain⟨v,w,m,m',rfl,hu,hw,e⟩:=hv.two
   obtain⟨q,rfl,q1,q2,q3⟩:=hu.numb hs
   obtain⟨r,rfl,r1,r2,r3⟩:=hw.numb hs
   have p:=j6w (q2.r q1 (by omega) (by omega)) (r2.r r1 (by omega) (by omega))
   rw[show nodeF env (bare 15 2) [.num s q, .num s r]= .num s (v1e q r) by simp[nodeF,bare,at0,Val.s,Val.q],q6g] at hT
   simp only[go_sem,z6b,hB,eNode,nat,bare,k8,w7,q6k,x7s,Val.s,Val.b,Val.t,Val.l,z9,z8,decide_true,decide_false,z0m,z0l,z0f,z1a,z0a p]
   refine⟨by simp[z1b,apart,z0j,z0z,z1d,AOp.isCall,hB,AV.ids,idsL,z0x,q1o], ?_⟩
   rw[z0h rfl (by simp[z1j,AV.cv,cvL,AV.ids,idsL,z0x])]
   exact hT _ hS.app
 | @div o k ks h h1 h2=>
   obtain⟨v,rfl,hu⟩:=hv.one
   obtain⟨z,rfl,hz⟩:=hu.int
   rcases h with rfl | rfl
   ·rw[show nodeF env ⟨16,0,[],dec k,1⟩ [.num 2 (z4g z)]= .num 2 (z4g (z / (k:Int))) by simp[nodeF,at0,Val.q,q3s,z1s],q6g,z1z] at hT
    simp only[go_sem,z6b,hB,eNode,nat,k8,w7,q6k,Val.s,Val.b,Val.t,Val.l,z1z,z9,z8,decide_true,decide_false,z0m,z0l,z0f,z0a (j7k (z:=z) (by omega) h1 h2)]
    rw[z0h rfl (by simp[z1j,AV.cv,cvL,AV.ids,idsL,z0x])]
    exact hT _ hS.app
   ·rw[show nodeF env ⟨17,0,[],dec k,1⟩ [.num 2 (z4g z)]= .num 2 (z4g (z % (k:Int))) by simp[nodeF,at0,Val.q,q3s,z1s],q6g,z1z] at hT
    simp only[go_sem,z6b,hB,eNode,nat,k8,w7,q6k,Val.s,Val.b,Val.t,Val.l,z1z,z9,z8,decide_true,decide_false,z0m,z0l,z0f,z0a (v2s (z:=z) (by omega) h1 h2)]
    rw[z0h rfl (by simp[z1j,AV.cv,cvL,AV.ids,idsL,z0x])]
    exact hT _ hS.app
 | select=>
   obtain⟨v,w,m,m',rfl,hu,hw,e⟩:=hv.two
   obtain⟨z,l,rfl⟩:=hu.array
   obtain⟨i,rfl,hi⟩:=hw.int
   have p:=v2n (i:=i) (by omega) hu (by omega)
   rw[q3u] at p
   rw[show nodeF env (bare 18 2) [.arr z l, .num 2 (z4g i)]= .num 2 (z4g (atA z l i)) by simp[nodeF,bare,at0,Val.q,Val.l,q3s],q6g,z1z] at hT
   simp only[go_sem,z6b,hB,eNode,nat,bare,k8,w7,q6k,x7s,Val.s,Val.b,Val.t,Val.l,z1z,z9,z8,decide_true,decide_false,z0m,z0l,z0f,z0a p]
   rw[z0h rfl (by simp[z1j,AV.cv,cvL,AV.ids,idsL,z0x])]
   exact hT _ hS.app
 | store=>
   obtain⟨v,w,x,m,m',m'',rfl,hu,hw,hx,e⟩:=hv.three
   obtain⟨z,l,rfl⟩:=hu.array
   obtain⟨i,rfl,hi⟩:=hw.int
   obtain⟨j,rfl,hj⟩:=hx.int
   have p:=v2k (k:=i) (w:=j) (by omega) hu (by omega) (by omega)
   rw[q3u,q3u] at p
   rw[show nodeF env (bare 19 3) [.arr z l, .num 2 (z4g i), .num 2 (z4g j)]= .arr z (v1h z l i j) by simp[nodeF,bare,at0,Val.q,Val.l,q3s],q3u] at hT
   simp only[go_sem,z6b,hB,eNode,nat,bare,k8,w7,q6k,x7s,y9n,Val.s,Val.b,Val.t,Val.l,z1z,z9,z8,decide_true,decide_false,z0m,z0l,z0f,z0a p]
   rw[z0h rfl (by simp[z1j,AV.cv,cvL,AV.ids,idsL,z0x])]
   exact hT _ hS.app
 | const=>
   obtain⟨v,rfl,hu⟩:=hv.one
   obtain⟨z,rfl,hz⟩:=hu.int
   rw[show nodeF env (bare 20 1) [.num 2 (z4g z)]= .arr z [] by simp[nodeF,bare,at0,Val.q,q3s],q3u] at hT
   simp only[go_sem,z6b,hB,eNode,nat,bare,k8,w7,q6k,Val.s,Val.b,Val.t,Val.l,z1z,z9,z8,decide_true,decide_false,z0m,z0l,z0f]
   rw[z0h rfl (by simp[z1j,AV.cv,cvL,AV.ids,idsL,z0x])]
   exact hT _ hS.app
end
end
section
abbrev evS (T:Term) (env:List (List Nat×Val)) (sl g:Nat):List (Nat×AObj):=[(sl, .blk g [evO T env] false false 0)]
inductive Evs (T:Term) (env:List (List Nat×Val)) (sl g:Nat):Nat→List Val→Nat→Prop
 | nil {i:Nat}:Evs T env sl g i [] i
 | cons {i m j:Nat} {v:Val} {vs:List Val} (h:Reads (evS T env sl g) 173 [.ptr sl g 0 0,nat i] (.tup [eV v,nat m, .int .i64 0])) (hm:m≤T.length) (hr:Evs T env sl g m vs j):Evs T env sl g i (v::vs) j
theorem z8y {l:List Val}:z0n 5 (l.map eV)=true:=z2m fun _=>⟨rfl,rfl,rfl⟩
section
variable {K:Nat} {V:List Var} {env:List (List Nat×Val)} {T:Term} {n:Node} {ss:List Nat} {s M i m:Nat} {ks:Term} {vs:List Val} {sl g:Nat}
theorem k6p (he:q7f K V env) (hel:env.length≤1000) (htl:T.length≤20000) (hi:T[i]? =some n) (hn:NodeOk V n ss s ks) (hk:n.kids=ss.length) (hv:VsOk ss M vs) (hvl:vs.length≤T.length) (hM:M + K≤330000) (hT:Evs T env sl g (i + 1) vs m):Reads (evS T env sl g) 173 [.ptr sl g 0 0,nat i] (.tup [eV (nodeF env n vs),nat m, .int .i64 0]):=by
 have hit:i < T.length:=(List.getElem?_eq_some_iff.1 hi).1
 have hlen:=hv.len
 have hR:=fun u=>k6o (T:=T) (sl:=sl) (g:=g) (u:=u) he hel hn hv (by omega) hM
 refine Reads.of rfl y2r rfl rfl rfl (az:=[.ptr sl g 0 0,nat i]) rfl (by simpa [idsL,AV.ids,z3j] using Cov.one (s:=sl) (o:= .blk g [evO T env] false false 0) (by simp[AObj.ids,idsL,k6m])) fun D B clk R hB hS hlt hT'=> ?_
 have h1:=hlt (sl, .blk g [evO T env] false false 0) (by simp)
 have b1:=z2g (g:=g) (hS (sl, .blk g [evO T env] false false 0) (by simp))
 dsimp only at h1 b1
 generalize nodeF env n vs=val at *
 have e4:IntKind.i64.wrap ((i:Int) + 1)=((i + 1:Nat):Int):=z0e (by omega) (by omega)
 simp only[go_sem,v6m,nat,evO,hB,z2x hB h1,b1,z2z hi,e4]
 refine z1t (fun r q=>∃ (done left:List Val) (t8:Tip) (e g0 g1:Nat) (o2 o3 o4 o5:AObj),vs=done++left∧r=left.length∧Evs T env sl g e left m∧e≤T.length∧q.ts 0= .ptr sl g 0 0∧q.ts 1= .int .i64 (e:Int)∧q.ts 4= .ptr (B + 0) g0 0 0∧q.ts 7= .ptr (B + 1) g1 0 0∧q.ts 8= .sl (done.map eV) t8∧q.ts 9= .int .i64 (done.length:Int)∧q.h=D++[.blk g0 [.agg [.int .i64 0, .bool false, .str [], .sl [] .nil, .sl [] .nil]] false false 0, .blk g1 [.agg [.int .i64 (n.op:Int), .int .i64 (n.sort:Int), .str n.name, .str n.num, .int .i64 (n.kids:Int)]] false false 0,o2,o3,o4,o5]∧z8x B 4 o4 t8 5) vs.length ⟨[],vs, .nil,i + 1,_,_,_,_,_,_,rfl,rfl,hT,hit,rfl,rfl,rfl,rfl,rfl,rfl,rfl, .inl rfl⟩ ?_
 rintro r ⟨ts,h,clk⟩ P ⟨done,left,t8,e,g0,g1,o2,o3,o4,o5,hvs,rfl,hT,he',q0,q1,q4,q7,q8,q9,rfl,htip⟩ hnx hex hr
 dsimp only at q0 q1 q4 q7 q8 q9
 cases hT with
 | nil=>
   obtain rfl:done=vs:=by simpa using hvs.symm
   have f1:decide ((done.length:Int) < (n.kids:Int))=false:=by rw[z03];omega
   simp only[go_sem,x5x,q0,q1,q4,q7,q8,q9,hB,f1]
   refine hex _ _ ?_
   have p:=hR t8
   simp only[eNode,nat,eV,value] at p
   rw[eV,value,nat,nat] at hT'
   simp only[go_sem,q0,q1,q4,q7,q8,hB,z1g p hS.app,z0m,z0l,z0f]
   rw[z0h rfl (by simp[z1j,AV.cv,cvL,AV.ids,idsL,z0x])]
   exact hT' _ hS.app
 | cons hp hm' hr'=>
   rename_i m' v left
   have f1:decide ((done.length:Int) < (n.kids:Int))=true:=by rw[z04,hk,←hlen,hvs];simp;omega
   have f5:IntKind.i64.wrap ((done.length:Int) + 1)=((done.length + 1:Nat):Int):=z0e (by omega) (by rw[hvs] at hvl;simp at hvl;omega)
   simp only[nat,eV,value] at hp
   simp only[go_sem,x5x,q0,q1,q4,q7,q8,q9,hB,f1,z1g hp hS.app,decide_true,decide_false,z7]
   rw[show [AV.agg [.int .i64 (v.s:Int), .bool v.b, .str v.t, .sl (z2s (v.l.map fun p=>z0i p.1)) .no, .sl (z2s (v.l.map fun p=>z0i p.2)) .no]]=[v].map eV from rfl,z0q hB rfl htip z8y z8y (by rw[hvs] at hvl;simp at hvl⊢;omega),←v5]
   simp only[go_sem,q0,q1,q4,q7,q8,q9,hB,f5]
   exact hnx left.length _ (by simp) ⟨done++[v],left,_,m',g0,g1,_,_,_,_,by simp[hvs],rfl,hr',hm',q0,rfl,q4,q7,rfl,by rw[y5];rfl,rfl, .inr (.inr ⟨_,rfl,rfl⟩)⟩
end
theorem v2t {K:Nat} {V:List Var} {env:List (List Nat×Val)} {T:Term} {sl g:Nat} (he:q7f K V env) (hel:env.length≤1000) (htl:T.length≤20000) (hK:K * (T.length + 1)≤330000) {ss:List Nat} {d:Nat} {f:Term} (h:WF V ss d f):∀ {pre post:Term},T=pre++f++post→∃ vs,Ev env f vs∧VsOk ss (K * f.length) vs∧Evs T env sl g pre.length vs (pre.length + f.length):=by
 induction h with
 | nil=>intro pre post ht;exact⟨[], .nil, .nil, .nil⟩
 | @cons n ss ks s d ss' rest h1 h2 h3 h4 ih1 ih2=>
   intro pre post ht
   have hl:pre.length + (1 + ks.length + rest.length)≤T.length:=by rw[ht];simp;omega
   obtain⟨vs,a1,a2,i1⟩:=ih1 (pre:=pre++[n]) (post:=rest++post) (by rw[ht];simp)
   obtain⟨ws,b1,b2,i2⟩:=ih2 (pre:=pre++(n::ks)) (post:=post) (by rw[ht];simp)
   simp only[y5,u6,d5,y4] at i1 i2
   have hw:=h1.len
   have hit:T[pre.length]? =some n:=by rw[ht];simp
   have hvl:=a2.len
   have hM:K * ks.length + K≤330000:=by
    have:K * (ks.length + 1)≤K * (T.length + 1):=Nat.mul_le_mul_left _ (by omega)
    rw[Nat.mul_add,Nat.mul_one] at this
    omega
   refine⟨_, .cons a1 (by rw[h3,hvl]) b1, ?_, ?_⟩
   ·have:=VsOk.cons (v1k he h2 a2) b2
    simp only[u6,y5]
    rw[show K * (ks.length + rest.length + 1)=K * ks.length + K + K * rest.length by rw[Nat.mul_add,Nat.mul_add,Nat.mul_one];omega]
    exact this
   ·refine .cons (m:=pre.length + (ks.length + 1)) (k6p he hel htl hit h2 h3 a2 (by omega) hM (by rw[show pre.length + (ks.length + 1)=pre.length + 1 + ks.length by omega];exact i1)) (by omega) ?_
    simp only[u6,y5]
    rw[show pre.length + (ks.length + rest.length + 1)=pre.length + (ks.length + 1) + rest.length by omega]
    exact i2
theorem j0v {K:Nat} {V:List Var} {env:List (List Nat×Val)} {T:Term} {sl g s d:Nat} (he:q7f K V env) (hel:env.length≤1000) (htl:T.length≤20000) (hK:K * (T.length + 1)≤330000) (h:WF V [s] d T):∃ v,Ev env T [v]∧VOk (K * T.length) s v∧Reads (evS T env sl g) 173 [.ptr sl g 0 0, .int .i64 0] (.tup [eV v,nat T.length, .int .i64 0]):=by
 obtain⟨vs,h1,h2,h3⟩:=v2t (sl:=sl) (g:=g) he hel htl hK h (pre:=[]) (post:=[]) (by simp)
 obtain⟨v,rfl,hv⟩:=h2.one
 cases h3 with
 | cons hp hm hr=>
   cases hr with
   | nil=>
     rw[d5,y4] at hp
     exact⟨v,h1,hv,hp⟩
end
theorem v2u {U V:List Var} [UOk U] {t:Term} {s d:Nat} (hV:∀ v∈V,v∈U) (htl:t.length≤20000) (hd:d≤256) (h:WF V [s] d t) (hs:1≤s):Pure Gam 171 [z0k t] (.bool true):=by
 have p1:=k5o hV htl hd h hs
 refine Pure.of rfl u6q rfl rfl rfl (az:=[z0k t]) rfl (by simp[idsL,z0k,AV.ids,z0c z1v]) fun D B clk T hB hT=> ?_
 have e1:decide ((0:Int) < (s:Int))=true:=by rw[z04];omega
 simp only[nat] at p1
 simp only[go_sem,y6e,hB,z0a p1,e1]
 rw[z0d]
 exact hT _
section
theorem Ev.det {env:List (List Nat×Val)} {t:Term} {vs:List Val} (h:Ev env t vs):∀ {t':Term} {vs':List Val} {r r':Term},Ev env t' vs'→t++r=t'++r'→vs.length=vs'.length→t=t'∧vs=vs':=by
 induction h with
 | nil=>
   intro t' vs' r r' h' _ hl
   cases h' with
   | nil=>exact⟨rfl,rfl⟩
   | cons=>simp at hl
 | @cons n ks rest vs ws h1 h2 h3 ih1 ih2=>
   intro t' vs' r r' h' he hl
   cases h' with
   | nil=>simp at hl
   | @cons n' ks' rest' vs2 ws2 g1 g2 g3=>
     simp only[List.cons_append,n0,List.cons.injEq] at he
     obtain⟨rfl,he⟩:=he
     obtain⟨rfl,rfl⟩:=ih1 g1 he (by rw[←h2,←g2])
     obtain⟨rfl,rfl⟩:=ih2 g3 (List.append_cancel_left he) (by simpa using hl)
     exact⟨rfl,rfl⟩
noncomputable section
open Classical
def z7q (env:List (List Nat×Val)) (t:Term):Val:=if h:∃ v,Ev env t [v] then h.choose else .bool false
end
theorem q9c {env:List (List Nat×Val)} {t:Term} {v:Val} (h:Ev env t [v]):z7q env t=v:=by
 have he:∃ v,Ev env t [v]:=⟨v,h⟩
 unfold z7q
 rw[dif_pos he]
 have:=(he.choose_spec.det h (r:=[]) (r':=[]) rfl rfl).2
 simpa using this
section
variable {K:Nat} {U V:List Var} [UOk U] {env:List (List Nat×Val)} {T:Term} {s d:Nat}
theorem q3j (he:q7f K V env) (hel:env.length≤1000) (htl:T.length≤20000) (hK:K * (T.length + 1)≤330000) (h:WF V [s] d T):Ev env T [z7q env T]∧VOk (K * T.length) s (z7q env T)∧∀ sl g,Reads (evS T env sl g) 173 [.ptr sl g 0 0, .int .i64 0] (.tup [eV (z7q env T),nat T.length, .int .i64 0]):=by
 obtain⟨v,h1,h2,_⟩:=j0v (sl:=0) (g:=0) he hel htl hK h
 rw[q9c h1]
 refine⟨h1,h2,fun sl g=> ?_⟩
 obtain⟨w,g1,_,g3⟩:=j0v (sl:=sl) (g:=g) he hel htl hK h
 rw[←q9c g1,q9c h1] at g3
 exact g3
theorem j7l {u w x:Tip} (hV:∀ v∈V,v∈U) (he:q7f K V env) (hev:∀ p∈env,∃ m s,VOk m s p.2∧m≤330000) (hel:env.length≤1000) (htl:T.length≤20000) (hK:K * (T.length + 1)≤330000) (hd:d≤256) (h:WF V [s] d T) (hs:1≤s):Pure Gam 105 [.sl (T.map eNode) u, .sl (env.map eB) w, .sl [] x] (.tup [eV (z7q env T), .int .i64 0]):=by
 have p1:=v2u hV htl hd h hs
 obtain⟨_,hv,hr⟩:=q3j he hel htl hK h
 have hm:K * T.length≤330000:=by rw[Nat.mul_add] at hK;omega
 have pc:=v2m hv hm
 generalize z7q env T=val at *
 rw[z0k] at p1
 simp only[eV,value,nat] at pc hr
 refine Pure.of rfl y2n rfl rfl rfl (az:=[.sl (T.map eNode) .no, .sl (env.map eB) .no, .sl [] .no]) rfl (by simp[idsL,AV.ids,z0c z1v,z0c q1q]) fun D B clk T' hB hT=> ?_
 rw[eV,value,nat] at hT
 simp only[go_sem,v6k,hB,z0a p1,z7]
 refine z3t env.length (by omega) (fun i q=>∃ g0:Nat,q.ts 0= .sl (T.map eNode) .no∧q.ts 1= .sl (env.map eB) .no∧q.ts 2= .sl [] .no∧q.ts 6= .ptr (B + 0) g0 0 0∧q.ts 8= .int .i64 (i:Int)∧q.h=D++[.blk g0 [.agg [.int .i64 0, .bool false, .str [], .sl [] .nil, .sl [] .nil]] false false 0, .dead, .dead]) ⟨_,rfl,rfl,rfl,rfl,rfl,rfl⟩ ?_ ?_
 ·rintro i hlt f1 f2 ts h clk P ⟨g0,q0,q1,q2,q6,q8,rfl⟩ hnx hex hret
  dsimp only at q0 q1 q2 q6 q8
  have hx:=fun h=>y9o (h:=h) (t:= .no) (k:= .i64) hlt
  obtain⟨m,s,hvm,hmm⟩:=hev _ (j9 hlt)
  have p:=x7h hmm hvm
  simp only[eV,value,nat] at p
  simp only[go_sem,x5v,nat,q0,q1,q2,q6,q8,hB,f1,f2,z6,hx,z0a p,z7]
  exact hnx _ ⟨g0,q0,q1,q2,q6,rfl,rfl⟩
 ·rintro f1 ts h clk P ⟨g0,q0,q1,q2,q6,q8,rfl⟩ hex hret
  dsimp only at q0 q1 q2 q6 q8
  simp only[go_sem,x5v,q0,q1,q2,q6,q8,hB,f1,z6]
  refine hex _ _ ?_
  simp only[go_sem,q0,q1,q2,q6,hB]
  refine z3t 0 (by omega) (fun i q=>q.ts 0= .sl (T.map eNode) .no∧q.ts 1= .sl (env.map eB) .no∧q.ts 2= .sl [] .no∧q.ts 6= .ptr (B + 0) g0 0 0∧q.ts 9= .int .i64 (i:Int)∧q.h=D++[.blk g0 [.agg [.int .i64 0, .bool false, .str [], .sl [] .nil, .sl [] .nil]] false false 0, .dead, .dead]) ⟨by simp[z0b,q0],by simp[z0b,q1],by simp[z0b,q2],by simp[z0b,q6],by simp[z0b],rfl⟩ ?_ ?_
  ·rintro i hlt
   omega
  ·rintro f1 ts h clk P ⟨r0,r1,r2,r6,r9,rfl⟩ hex2 hret2
   dsimp only at r0 r1 r2 r6 r9
   have f0:decide ((0:Int) < 0)=false:=by decide
   simp only[go_sem,x5u,r0,r1,r2,r6,r9,hB,f0,d5]
   refine hex2 _ _ ?_
   have hh:∀ (g:Nat) (a b:AObj),Has (evS T env (B + 1) g) (D++[a, .blk g [evO T env] false false 0,b]):=fun g a b=>Has.cons (by show (D++_)[B + 1]? =_;rw[z2u hB];rfl) Has.nil
   simp only[evO] at hh
   simp only[go_sem,r0,r1,r2,r6,hB,z1g (hr _ _) (hh _ _ _),z0a pc,decide_true,decide_false,z7,z0m,z0l,z0f]
   rw[z0h rfl (by simp[z1j,AV.cv,cvL,AV.ids,idsL,z0x])]
   exact hT _
theorem j7m {u w x:Tip} (hV:∀ v∈V,v∈U) (he:q7f K V env) (hev:∀ p∈env,∃ m s,VOk m s p.2∧m≤330000) (hel:env.length≤1000) (htl:T.length≤20000) (hK:K * (T.length + 1)≤330000) (hd:d≤256) (h:WF V [1] d T):Pure Gam 53 [.sl (T.map eNode) u, .sl (env.map eB) w, .sl [] x] (.bool (z7q env T).b):=by
 have p:=j7l (u:= .no) (w:= .no) (x:= .no) hV he hev hel htl hK hd h (by omega)
 obtain⟨_,hv,_⟩:=q3j he hel htl hK h
 obtain⟨b,hb⟩:=hv.bool
 rw[hb,z4x] at p
 rw[hb]
 refine Pure.of rfl y2k rfl rfl rfl (az:=[.sl (T.map eNode) .no, .sl (env.map eB) .no, .sl [] .no]) rfl (by simp[idsL,AV.ids,z0c z1v,z0c q1q]) fun D B clk T' hB hT=> ?_
 have hT:∀ h',T' (.bool b) h':=hT
 simp only[go_sem,v6h,hB,z0a p,decide_true]
 rw[z0d]
 exact hT _
end
end
def z8e (V:List Var) (vs:List Val):List (List Nat×Val):=List.zipWith (fun v w=>(v.name,w)) V vs
structure FitK (K:Nat) (V:List Var) (vs:List Val):Prop where
 len:vs.length=V.length
 ok:∀ i (h:i < V.length) (h2:i < vs.length),VOk K V[i].sort vs[i]
theorem q2t {V:List Var} {vs:List Val} (h:vs.length=V.length):(z8e V vs).length=V.length:=by simp[z8e,h]
theorem j7n {V:List Var} {vs:List Val} {i:Nat} (h:i < (z8e V vs).length) (h1:i < V.length) (h2:i < vs.length):(z8e V vs)[i]=(V[i].name,vs[i]):=by simp[z8e]
theorem j7o {K:Nat} {V:List Var} {vs:List Val} (hK:1≤K) (hn:(V.map (·.name)).Nodup) (h:FitK K V vs):q7f K V (z8e V vs):=by
 refine⟨hK,fun v hv=> ?_⟩
 obtain⟨i,hi,rfl⟩:=t4.1 hv
 have hi2:i < vs.length:=by rw[h.len];exact hi
 have hie:i < (z8e V vs).length:=by rw[q2t h.len];exact hi
 refine⟨vs[i], ?_,h.ok i hi hi2⟩
 rw[List.find?_eq_some_iff_getElem]
 refine⟨by simp,i,hie,j7n hie hi hi2,fun j hj=> ?_⟩
 rw[j7n (by omega) (by omega) (by omega)]
 have:V[j].name≠V[i].name:=fun e=>by
  have:=(List.getElem_inj (xs:=V.map (·.name)) (i:=j) (j:=i) (h₀:=by simp;omega) (h₁:=by simpa using hi) hn).1 (by simpa using e)
  omega
 simp[this]
theorem j7p {K:Nat} {V:List Var} {vs:List Val} (hK:K≤330000) (h:FitK K V vs):∀ p∈z8e V vs,∃ m s,VOk m s p.2∧m≤330000:=by
 intro p hp
 obtain⟨i,hi,rfl⟩:=t4.1 hp
 have h1:i < V.length:=by rw[q2t h.len] at hi;exact hi
 have h2:i < vs.length:=by rw[h.len];exact h1
 rw[j7n hi h1 h2]
 exact⟨K,_,h.ok i h1 h2,hK⟩
theorem x2b {l:List (List Nat×Val)}:z0n 6 (l.map eB)=true:=z2m fun _=>⟨rfl,rfl,rfl⟩
theorem j7q {V:List Var} {vs:List Val} {u w:Tip} (hl:V.length≤1000) (hlen:vs.length=V.length):Pure Gam 52 [.sl (V.map z1k) u, .sl (vs.map eV) w] (.sl ((z8e V vs).map eB) .no):=by
 refine Pure.of rfl y2j rfl rfl rfl (az:=[.sl (V.map z1k) .no, .sl (vs.map eV) .no]) rfl (by simp[idsL,AV.ids,z0c z2l,z5z]) fun D B clk T hB hT=> ?_
 simp only[go_sem,v6g,hB]
 refine z3t V.length (by omega) (fun i q=>∃ (t:Tip) (o0 o1:AObj),q.ts 0= .sl (V.map z1k) .no∧q.ts 1= .sl (vs.map eV) .no∧q.ts 5= .sl (((z8e V vs).take i).map eB) t∧q.ts 6= .int .i64 (i:Int)∧q.h=D++[o0,o1]∧z8x B 1 o1 t 6) ⟨.nil,_,_,rfl,rfl,rfl,rfl,rfl, .inl rfl⟩ ?_ ?_
 ·rintro i hlt f1 f2 ts h clk P ⟨t,o0,o1,q0,q1,q5,q6,rfl,ht⟩ hnx he hr
  dsimp only at q0 q1 q5 q6
  have hi2:i < vs.length:=by omega
  have hie:i < (z8e V vs).length:=by rw[q2t hlen];exact hlt
  have hx:=fun h=>z7o (l:=V) (i:=i) (h:=h) (t:= .no) (k:= .i64) hlt
  have hy:=fun h=>k6j (vs:=vs) (i:=i) (h:=h) (t:= .no) (k:= .i64) hi2
  have e8:((z8e V vs).take i).map eB++[((V[i].name,vs[i]):List Nat×Val)].map eB=((z8e V vs).take (i + 1)).map eB:=by
   rw[w8 hie,j7n hie hlt hi2,v5]
  have hel:((z8e V vs).take i).length≤1000:=by rw[b6];omega
  generalize V[i]=v at *
  generalize vs[i]=x at *
  simp only[go_sem,x5t,nat,q0,q1,q5,q6,hB,f1,z6,hx,hy]
  rw[show [AV.agg [.str v.name, .int .i64 (x.s:Int), .bool x.b, .str x.t, .sl (z2s (x.l.map fun p=>z0i p.1)) .no, .sl (z2s (x.l.map fun p=>z0i p.2)) .no]]=[((v.name,x):List Nat×Val)].map eB from rfl,z0q hB rfl ht x2b x2b (by simp only[z6,w0];omega),e8]
  simp only[go_sem,q0,q1,q5,q6,hB,f2]
  exact hnx _ ⟨_,_,_,q0,q1,rfl,rfl,rfl, .inr (.inr ⟨_,rfl,rfl⟩)⟩
 ·rintro f1 ts h clk P ⟨t,o0,o1,q0,q1,q5,q6,rfl,ht⟩ he hr
  dsimp only at q0 q1 q5 q6
  rw[b7 (by rw[q2t hlen];omega)] at q5
  simp only[go_sem,x5t,q0,q1,q5,q6,hB,f1,z6]
  refine he _ _ ?_
  simp only[go_sem,q5]
  rw[z2n rfl (by simp[AV.cv,AV.ids,z0c q1q])]
  exact hT _
theorem v2v {K:Nat} {V:List Var} {vs:List Val} {u w:Tip} (hl:V.length≤1000) (h:FitK K V vs) (hK:K≤330000):Pure Gam 51 [.sl (V.map z1k) u, .sl (vs.map eV) w] (.bool true):=by
 have hlen:=h.len
 refine Pure.of rfl y2h rfl rfl rfl (az:=[.sl (V.map z1k) .no, .sl (vs.map eV) .no]) rfl (by simp[idsL,AV.ids,z0c z2l,z5z]) fun D B clk T hB hT=> ?_
 have e0:decide ((V.length:Int)=(vs.length:Int))=true:=by rw[z04];omega
 simp only[go_sem,v6f,hB,z6,e0,z7]
 refine z3t V.length (by omega) (fun i q=>q.ts 0= .sl (V.map z1k) .no∧q.ts 1= .sl (vs.map eV) .no∧q.ts 5= .int .i64 (i:Int)) ⟨rfl,rfl,rfl⟩ ?_ ?_
 ·rintro i hlt f1 f2 ts hh clk P ⟨q0,q1,q5⟩ hnx he hr
  dsimp only at q0 q1 q5
  have hi2:i < vs.length:=by omega
  have hx:=fun h=>z7o (l:=V) (i:=i) (h:=h) (t:= .no) (k:= .i64) hlt
  have hy:=fun h=>k6j (vs:=vs) (i:=i) (h:=h) (t:= .no) (k:= .i64) hi2
  have hv:=h.ok i hlt hi2
  have p:=x7h hK hv
  simp only[eV,value,nat] at p
  have e1:decide ((vs[i].s:Int)=(V[i].sort:Int))=true:=by rw[hv.s];simp
  generalize V[i]=v at *
  generalize vs[i]=x at *
  simp only[go_sem,x5s,nat,q0,q1,q5,hB,f1,f2,z6,hx,hy,z0a p,z7,e1,decide_true]
  exact hnx _ ⟨q0,q1,rfl⟩
 ·rintro f1 ts hh clk P ⟨q0,q1,q5⟩ he hr
  dsimp only at q0 q1 q5
  simp only[go_sem,x5s,q0,q1,q5,hB,f1,z6]
  refine he _ _ ?_
  simp only[go_sem,]
  rw[z0d]
  exact hT _
section
def u1p (K:Nat) (V:List Var) (s:Nat) (t:Term):Prop:=∃ d,WF V [s] d t∧t.length≤20000∧K * (t.length + 1)≤330000∧d≤256∧1≤s
section
variable {K:Nat} {U V:List Var} [UOk U] {env:List (List Nat×Val)}
theorem v2w {l:List Term} {u w:Tip} (hV:∀ v∈V,v∈U) (he:q7f K V env) (hev:∀ p∈env,∃ m s,VOk m s p.2∧m≤330000) (hel:env.length≤1000) (hl:l.length≤1000) (ht:∀ t∈l,∃ s,u1p K V s t):Pure Gam 107 [.sl (l.map z0k) u, .sl (env.map eB) w] (.sl ((l.map (z7q env)).map eV) .no):=by
 refine Pure.of rfl y2p rfl rfl rfl (az:=[.sl (l.map z0k) .no, .sl (env.map eB) .no]) rfl (by simp[idsL,AV.ids,z0c z2c,z0c q1q]) fun D B clk T hB hT=> ?_
 simp only[go_sem,v6l,hB]
 refine z3t l.length (by omega) (fun i q=>∃ (t:Tip) (o0 o1 o2:AObj),q.ts 0= .sl (l.map z0k) .no∧q.ts 1= .sl (env.map eB) .no∧q.ts 5= .sl (((l.take i).map (z7q env)).map eV) t∧q.ts 6= .int .i64 (i:Int)∧q.h=D++[o0,o1,o2]∧z8x B 2 o2 t 5) ⟨.nil,_,_,_,rfl,rfl,rfl,rfl,rfl, .inl rfl⟩ ?_ ?_
 ·rintro i hlt f1 f2 ts h clk P ⟨t,o0,o1,o2,q0,q1,q5,q6,rfl,htip⟩ hnx hex hr
  dsimp only at q0 q1 q5 q6
  have hx:=fun h=>q5t (l:=l) (i:=i) (h:=h) (t:= .no) (k:= .i64) hlt
  obtain⟨s,d,hw,h1,h2,h3,h4⟩:=ht _ (j9 hlt)
  have p:=j7l (u:= .no) (w:= .no) (x:= .nil) hV he hev hel h1 h2 h3 hw h4
  have e8:((l.take i).map (z7q env)).map eV++[z7q env l[i]].map eV=((l.take (i + 1)).map (z7q env)).map eV:=by
   rw[w8 hlt,v5,v5]
   rfl
  simp only[z0k] at hx
  generalize z7q env l[i]=v at *
  generalize l[i]=x at *
  simp only[eV,value,nat] at p
  simp only[go_sem,x5w,nat,q0,q1,q5,q6,hB,f1,z6,hx,z0a p]
  rw[show [AV.agg [.int .i64 (v.s:Int), .bool v.b, .str v.t, .sl (z2s (v.l.map fun p=>z0i p.1)) .no, .sl (z2s (v.l.map fun p=>z0i p.2)) .no]]=[v].map eV from rfl,z0q hB rfl htip z8y z8y (by simp only[z6,w0,b6];omega),e8]
  simp only[go_sem,q0,q1,q5,q6,hB,f2]
  exact hnx _ ⟨_,_,_,_,q0,q1,rfl,rfl,rfl, .inr (.inr ⟨_,rfl,rfl⟩)⟩
 ·rintro f1 ts h clk P ⟨t,o0,o1,o2,q0,q1,q5,q6,rfl,htip⟩ hex hr
  dsimp only at q0 q1 q5 q6
  rw[u4] at q5
  simp only[go_sem,x5w,q0,q1,q5,q6,hB,f1,z6]
  refine hex _ _ ?_
  simp only[go_sem,q5]
  rw[z2n rfl (by simp[-List.map_map,AV.cv,AV.ids,z5z])]
  exact hT _
def x2c (p:List Nat) (vs:List Val):AV:= .agg [.str p, .sl (vs.map eV) .no]
theorem v2x {p:List Nat} {vs:List Val}:(x2c p vs).ids=[]:=by simp[x2c,AV.ids,idsL,z5z]
theorem v2y {a:App} {w:Tip} (hV:∀ v∈V,v∈U) (he:q7f K V env) (hev:∀ p∈env,∃ m s,VOk m s p.2∧m≤330000) (hel:env.length≤1000) (hl:a.args.length≤1000) (ht:∀ t∈a.args,∃ s,u1p K V s t):Pure Gam 55 [z2b a, .sl (env.map eB) w] (x2c a.pred (a.args.map (z7q env))):=by
 have p:=v2w (u:= .no) (w:= .no) hV he hev hel hl ht
 refine Pure.of rfl y2m rfl rfl rfl (az:=[z2b a, .sl (env.map eB) .no]) rfl (by simp[idsL,AV.ids,z8b,z0c q1q]) fun D B clk T hB hT=> ?_
 rw[x2c] at hT
 simp only[go_sem,v6j,hB,z2b,z1a,z0a p,z0m,z0l,z0f]
 refine⟨by simp[-List.map_map,z1b,apart,z0j,z0z,z1d,AOp.isCall,hB,AV.ids,idsL,z5z], ?_⟩
 rw[z2n rfl (by simp[-List.map_map,AV.cv,cvL,AV.ids,idsL,z5z])]
 exact hT _
end
theorem v2z {K:Nat} {s:Sys} {m:List Def} {p:List Nat} {vs:List Val} {j:Nat} (hpl:s.preds.length≤1000) (hj:j < m.length) (hp:z9k s.preds p=(j:Int)) (hd:DefOk m[j]) (hK:1≤K) (hK2:K≤330000) (hf:FitK K m[j].params vs) (hb:u1p K m[j].params 1 m[j].body):Pure Gam 54 [z2i s,z9v m,x2c p vs] (.bool (z7q (z8e m[j].params vs) m[j].body).b):=by
 have p82:=j6x (s:=s) (nm:=p) hpl
 rw[hp,z2i] at p82
 have hlen:=hf.len
 have hplen:=hd.len
 obtain⟨d,b1,b2,b3,b4,_⟩:=hb
 haveI:=hd.u
 have he:=j7o hK hd.nd hf
 have p21:=j7q (V:=m[j].params) (vs:=vs) (u:= .no) (w:= .no) (by omega) hlen
 have p22:=j7m (U:=m[j].params) (u:= .no) (w:= .no) (x:= .nil) (fun v h=>h) he (j7p hK2 hf) (by rw[q2t hlen];omega) b2 b3 b4 b1
 have hx:=fun h=>q7h (l:=m) (i:=j) (h:=h) (t:= .no) (k:= .i64) hj
 have e0:decide ((0:Int)≤(j:Int))=true:=by simp
 have e1:decide ((vs.length:Int)=(m[j].params.length:Int))=true:=by rw[z04];omega
 generalize (z7q (z8e m[j].params vs) m[j].body).b=r at *
 generalize z8e m[j].params vs=env at *
 generalize m[j]=df at *
 refine Pure.of rfl y2l rfl rfl rfl (az:=[z2i s,z9v m,x2c p vs]) rfl (by simp[idsL,z3n,q4w,v2x]) fun D B clk T hB hT=> ?_
 simp only[go_sem,v6i,hB,z2i,z9v,x2c,z0a p82,z1a,z6,hx,e0,e1,z0a p21,z0a p22]
 refine⟨by simp[z1b,apart,z0j,z0z,z1d,AOp.isCall,hB,AV.ids,idsL,z0c q1q,z0c z6e,z0c z2l,z0c z1v], ?_⟩
 rw[z0d]
 exact hT _
end
end Go.Proofs.YtkollgjffkdliaaGreatDoor.Am
