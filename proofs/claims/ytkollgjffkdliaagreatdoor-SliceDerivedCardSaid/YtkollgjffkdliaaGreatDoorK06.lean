/- What an operation of the abstract machine touches What an operation of the abstract machine touches: all operations that are no calls What an operation of the abstract machine leaves as it was Equalit -/
import Derived.Orders
import Derived.Test.YtkollgjffkdliaaGreatDoorK05
open Bool renaming and_eq_true → y4,false_eq_true → j9
open List renaming all_eq_true → y9,getElem?_append_left → g9,getElem?_append_right → b0,getElem?_eq_getElem → v9,getElem?_eq_none → p9,getElem?_eq_some_iff → x9,getElem?_set_ne → y7,map_append → v8,mem_append → x4,mem_append_right → p7,mem_cons → j6,mem_cons_of_mem → v7,mem_cons_self → j7,mem_map → w0
open Nat renaming add_zero → b4,le_refl → x7
open Option renaming map_eq_some_iff → x5,map_some → j5
set_option linter.all false
namespace Go.Proofs.YtkollgjffkdliaaGreatDoor.Am
open Go
set_option maxRecDepth 100000
def Same (S:List Nat) (h k:List AObj):Prop:=∀ s∈S,h[s]? =k[s]?
theorem Same.set {S:List Nat} {h k:List AObj} (hs:Same S h k) (i:Nat) (o:AObj):Same S (h.set i o) (k.set i o):=fun s hm=>by
 have:=hs s hm
 simp only[List.getElem?_set]
 by_cases hi:i=s
 ·subst hi
  have hh:i < h.length↔i < k.length:=by
   constructor
   ·intro hl
    rw[v9 hl] at this
    exact (x9.1 this.symm).1
   ·intro hl
    rw[v9 hl] at this
    exact (x9.1 this).1
  simp[hh]
 ·simp[hi,this]
theorem z8a {h k:List AObj} {s g:Nat} (hs:h[s]? =k[s]?):z2f h s g=z2f k s g:=by unfold z2f;rw[hs]
theorem q5x {h k:List AObj} {s g:Nat} (hs:h[s]? =k[s]?):z5d h s g=z5d k s g:=by unfold z5d;rw[hs]
theorem x2h {h k:List AObj} {s g o l:Nat} (hs:h[s]? =k[s]?):q3h h s g o l=q3h k s g o l:=by unfold q3h;rw[z8a hs]
theorem Same.freeze1 {S:List Nat} {h k:List AObj} (hs:Same S h k) (i n:Nat):Same S (freeze1 h i n) (freeze1 k i n):=fun s hm=>by
 have he:=hs s hm
 have get:∀ h:List AObj,(Am.freeze1 h i n)[s]? =if i=s then (match h[s]? with | some (.blk g es row grow fz)=>some (.blk g es row grow (max fz n)) | o=>o) else h[s]? :=fun h=>by
  unfold Am.freeze1
  by_cases hi:i=s
  ·subst hi
   rw[if_pos rfl]
   cases hc:h[i]? with
   | none=>simp[hc]
   | some o=>
     have hlt:=(x9.1 hc).1
     have hv:=(x9.1 hc).2
     cases o <;> simp[hlt,hv]
  ·rw[if_neg hi]
   split
   ·rw[y7 hi]
   ·rfl
 rw[get,get,he]
theorem Same.freezeAll {S:List Nat}:∀ {h k:List AObj} (_:Same S h k) (l:List (Nat×Nat)),Same S (Am.freezeAll h l) (Am.freezeAll k l)
 | _,_,hs,[]=>hs
 | h,k,hs,x::l=>by
   rw[show x::l=[x]++l from rfl,z3o,z3o,z6l,z6l]
   exact Same.freezeAll (hs.freeze1 x.1 x.2) l
mutual
theorem q8x {h k:List AObj}:∀ {v:AV},Same (v.obs.map (·.1)) h k→conv h v=conv k v
 | .agg cs,hs=>by
   simp only[conv]
   rw[q2m (by simpa only[AV.obs] using hs)]
 | .tup cs,hs=>by
   simp only[conv]
   rw[q2m (by simpa only[AV.obs] using hs)]
 | .ob s g o l,hs=>by
   simp only[conv]
   rw[x2h (hs s (by simp[AV.obs]))]
 | .sl _ _,_=>rfl
 | .undef,_=>rfl
 | .int ..,_=>rfl
 | .bool _,_=>rfl
 | .str _,_=>rfl
 | .ptr ..,_=>rfl
 | .iptr _ _,_=>rfl
 | .nilptr,_=>rfl
 | .mp ..,_=>rfl
 | .nilmap,_=>rfl
 | .fn _ _,_=>rfl
 | .nilfn,_=>rfl
 | .nilif,_=>rfl
 | .bwd _ _,_=>rfl
theorem q2m {h k:List AObj}:∀ {vs:List AV},Same ((z4u vs).map (·.1)) h k→z8f h vs=z8f k vs
 | [],_=>rfl
 | v::vs,hs=>by
   simp only[z8f]
   rw[q8x (v:=v) (fun s hm=>hs s (by simp only[z4u,v8,x4];exact .inl hm)),q2m (vs:=vs) (fun s hm=>hs s (by simp only[z4u,v8,x4];exact .inr hm))]
end
theorem j2y {S:List Nat} {h k h1:List AObj} {v v':AV} (hs:Same S h k) (ho:∀ s∈v.obs.map (·.1),s∈S) (hp:pub h v=some (v',h1)):∃ k1,pub k v=some (v',k1)∧Same S h1 k1:=by
 simp only[pub,x5,Prod.mk.injEq] at hp
 obtain⟨v1,hc,rfl,rfl⟩:=hp
 refine⟨_, ?_,hs.freezeAll v.obs⟩
 rw[q8x (fun s hm=>hs s (ho s hm))] at hc
 simp[pub,hc]
theorem j9k {h h1:List AObj} {v v':AV} (hp:pub h v=some (v',h1)) (s:Nat) (hn:s∉v.obs.map (·.1)):h1[s]? =h[s]? :=by
 simp only[pub,x5,Prod.mk.injEq] at hp
 obtain⟨v1,hc,rfl,rfl⟩:=hp
 exact z5f _ _ hn
theorem x2i {h k:List AObj} {v:AV} (hs:Same v.ids h k):z6k h v=z6k k v:=by
 cases v <;> simp only[z6k]
 rename_i s g o l
 exact x2h (hs s (by simp[AV.ids]))
theorem j0d {h k:List AObj} {t:LenTy} {v:AV} (hs:Same v.ids h k):z9p h t v=z9p k t v:=by
 cases t <;> cases v <;> simp only[z9p]
 rename_i s g
 rw[q5x (hs s (by simp[AV.ids]))]
theorem x4f {h k:List AObj} {e:Option Nat} {v:AV} {lo hi mx:Option AV} (hs:Same v.ids h k):z2v h e v lo hi mx=z2v k e v lo hi mx:=by
 cases e <;> cases v <;> simp only[z2v]
 rename_i s g o l
 rw[z8a (hs s (by simp[AV.ids]))]
theorem j6l {h k:List AObj} {v:AV} (hs:Same v.ids h k):x6n h v=x6n k v:=by
 cases v <;> simp only[x6n]
 rename_i s g
 exact q5x (hs s (by simp[AV.ids]))
def z3e (base:Nat) (ts:Tmps) (a:AOp):List Nat×List Nat:=foot {fn:=fun _=>none,ext:=fun _=>none} [] [] base ts a
theorem j0e {S:List Nat} {h k h1:List AObj} {slot gen esz by_:Nat} {mu:Bool} {x y v:AV} (hs:Same S h k) (hx:∀ s∈x.ids,s∈S) (hy:∀ s∈y.ids,s∈S) (ha:z1a h slot gen esz by_ mu x y=some (v,h1)):
  ∃ k1,z1a k slot gen esz by_ mu x y=some (v,k1)∧Same S h1 k1:=by
 have hsrc:=x2i (v:=y) (fun s hm=>hs s (hy s hm))
 unfold z1a at ha⊢
 rw[hsrc] at ha
 split at ha
 ·simp at ha
 ·rename_i ys hys
  split at ha
  ·simp at ha
  ·rename_i hall
   rw[if_neg hall]
   split at ha
   ·rename_i xs t
    split at ha
    ·simp at ha
    ·rename_i hc
     rw[if_neg hc]
     split at ha
     ·rename_i hmu
      rw[if_pos hmu]
      split at ha
      ·simp only[Option.some.injEq,Prod.mk.injEq] at ha
       obtain⟨rfl,rfl⟩:=ha
       exact⟨_,rfl,hs.set _ _⟩
      ·simp only[Option.some.injEq,Prod.mk.injEq] at ha
       obtain⟨rfl,rfl⟩:=ha
       exact⟨_,rfl,hs.set _ _⟩
      ·simp at ha
     ·rename_i hmu
      rw[if_neg hmu]
      split at ha
      ·simp only[Option.some.injEq,Prod.mk.injEq] at ha
       obtain⟨rfl,rfl⟩:=ha
       exact⟨_,rfl,hs.set _ _⟩
      ·simp only[Option.some.injEq,Prod.mk.injEq] at ha
       obtain⟨rfl,rfl⟩:=ha
       exact⟨_,rfl,hs.set _ _⟩
      ·rename_i s g
       have:=hs s (hx s (by simp[AV.ids]))
       rw[this] at ha
       split at ha
       ·rename_i g' e' heq
        split at ha
        ·rename_i hg
         simp only[Option.some.injEq,Prod.mk.injEq] at ha
         obtain⟨rfl,rfl⟩:=ha
         refine⟨_, ?_,(hs.set s _).set _ _⟩
         rw[if_pos hg]
        ·simp at ha
       ·simp at ha
      ·simp at ha
   ·rename_i s g off len
    have hb:z2f h s g=z2f k s g:=z8a (hs s (hx s (by simp[AV.ids])))
    rw[hb] at ha
    split at ha
    ·rename_i es grow fz heq
     split at ha
     ·simp at ha
     ·rename_i hc
      rw[if_neg hc]
      split at ha
      ·rename_i he
       rw[if_pos he]
       simp only[Option.some.injEq,Prod.mk.injEq] at ha
       obtain⟨rfl,rfl⟩:=ha
       exact⟨_,rfl,hs⟩
      ·rename_i he
       rw[if_neg he]
       split at ha
       ·rename_i hgr
        rw[if_pos hgr]
        split at ha
        ·rename_i hc2
         rw[if_pos hc2]
         simp only[Option.some.injEq,Prod.mk.injEq] at ha
         obtain⟨rfl,rfl⟩:=ha
         exact⟨_,rfl,(hs.set s _).set _ _⟩
        ·simp at ha
       ·rename_i hgr
        rw[if_neg hgr]
        split at ha
        ·rename_i hc2
         rw[if_pos hc2]
         split at ha
         ·rename_i hc3
          rw[if_pos hc3]
          simp only[Option.some.injEq,Prod.mk.injEq] at ha
          obtain⟨rfl,rfl⟩:=ha
          exact⟨_,rfl,hs.set s _⟩
         ·simp at ha
        ·rename_i hc2
         rw[if_neg hc2]
         split at ha
         ·rename_i hc3
          rw[if_pos hc3]
          simp only[Option.some.injEq,Prod.mk.injEq] at ha
          obtain⟨rfl,rfl⟩:=ha
          exact⟨_,rfl,hs.set _ _⟩
         ·simp at ha
    ·simp at ha
   ·simp at ha
theorem q4p {S:List Nat} {h k h1:List AObj} {base gen:Nat} {ts:Tmps} {a:AOp} {v:AV} (hs:Same S h k) (hf:∀ s∈(z3e base ts a).1++(z3e base ts a).2,s∈S) (hr:prim h base gen ts a=some (v,h1)):
  ∃ k1,prim k base gen ts a=some (v,k1)∧Same S h1 k1:=by
 cases a with
 | move x=>
   simp only[prim,Option.some.injEq,Prod.mk.injEq] at hr⊢
   obtain⟨rfl,rfl⟩:=hr
   exact⟨k,⟨rfl,rfl⟩,hs⟩
 | pick c a b=>
   simp only[prim] at hr⊢
   split at hr
   ·simp only[Option.some.injEq,Prod.mk.injEq] at hr
    obtain⟨rfl,rfl⟩:=hr
    exact⟨k,rfl,hs⟩
   ·simp at hr
 | alloc n z=>
   simp only[prim] at hr⊢
   split at hr
   ·simp at hr
   ·rename_i hc
    rw[if_neg hc]
    simp only[Option.some.injEq,Prod.mk.injEq] at hr
    obtain⟨rfl,rfl⟩:=hr
    exact⟨_,rfl,hs.set _ _⟩
 | box n x=>
   simp only[prim] at hr⊢
   split at hr
   ·simp at hr
   ·rename_i hc
    rw[if_neg hc]
    simp only[Option.some.injEq,Prod.mk.injEq] at hr
    obtain⟨rfl,rfl⟩:=hr
    exact⟨_,rfl,hs.set _ _⟩
 | build z ps=>
   simp only[prim,x5,Prod.mk.injEq] at hr⊢
   obtain⟨cs,h2,rfl,rfl⟩:=hr
   exact⟨k,⟨cs,h2,rfl,rfl⟩,hs⟩
 | buildSlice n mu z m ps=>
   simp only[prim] at hr⊢
   split at hr
   ·simp at hr
   ·rename_i hc
    rw[if_neg hc]
    have hcv:z8f h (ps.map fun p=>p.2.ev ts)=z8f k (ps.map fun p=>p.2.ev ts):=q2m fun s hm=>hs s (hf s (by simp only[z3e,foot,x4];exact .inr (.inr hm)))
    rw[hcv] at hr
    split at hr
    ·simp only[x5] at hr
     obtain⟨es,h2,h3⟩:=hr
     cases mu with
     | true=>
       simp only[if_true,Prod.mk.injEq] at h3
       obtain⟨rfl,rfl⟩:=h3
       exact⟨_,by simp[h2],(hs.freezeAll _).set _ _⟩
     | false=>
       simp only[j9,if_false,Prod.mk.injEq] at h3
       obtain⟨rfl,rfl⟩:=h3
       exact⟨_,by simp[h2],hs.freezeAll _⟩
    ·simp at hr
 | load sz x=>
   simp only[prim] at hr⊢
   have hids:∀ s∈(x.ev ts).ids,s∈S:=fun s hm=>hf s (by simp only[z3e,foot,x4];exact .inl hm)
   split at hr
   ·rename_i s g i o heq
    have hb:z2f h s g=z2f k s g:=z8a (hs s (hids s (by simp[heq,AV.ids])))
    rw[hb] at hr
    split at hr
    ·simp only[Option.bind_eq_some_iff,x5,Prod.mk.injEq] at hr
     obtain⟨e,h2,v',h3,rfl,rfl⟩:=hr
     exact⟨k,by simp[h2,h3],hs⟩
    ·simp at hr
   ·simp only[x5,Prod.mk.injEq] at hr⊢
    obtain⟨v',h3,rfl,rfl⟩:=hr
    exact⟨k,⟨v',h3,rfl,rfl⟩,hs⟩
   ·simp at hr
 | store sz x y=>
   simp only[prim] at hr⊢
   have hids:∀ s∈(x.ev ts).ids,s∈S:=fun s hm=>hf s (by simp only[z3e,foot,x4];exact .inr (.inl hm))
   have hobs:∀ s∈(y.ev ts).obs.map (·.1),s∈S:=fun s hm=>hf s (by simp only[z3e,foot,x4];exact .inr (.inr hm))
   split at hr
   ·rename_i s g i o heq
    have hb:z2f h s g=z2f k s g:=z8a (hs s (hids s (by simp[heq,AV.ids])))
    rw[hb] at hr
    split at hr
    ·rename_i es row grow fz hbk
     split at hr
     ·rename_i e v1 h1' he hpub
      obtain⟨k1',hpk,hsame⟩:∃ k1',(if row=true then pub k (y.ev ts) else some (y.ev ts,k))=some (v1,k1')∧Same S h1' k1':=by
       cases row with
       | true=>
         simp only[if_true] at hpub⊢
         exact j2y hs hobs hpub
       | false=>
         simp only[j9,if_false,Option.some.injEq,Prod.mk.injEq] at hpub⊢
         obtain⟨rfl,rfl⟩:=hpub
         exact⟨k,⟨rfl,rfl⟩,hs⟩
      split at hr
      ·rename_i hc
       simp only[x5,Prod.mk.injEq] at hr
       obtain⟨cs,h2,rfl,rfl⟩:=hr
       refine⟨_, ?_,hsame.set s _⟩
       rw[he,hpk]
       simp only[if_pos hc,h2,j5]
      ·simp at hr
     ·simp at hr
    ·simp at hr
   ·simp at hr
 | nilCheck x=>
   simp only[prim] at hr⊢
   split at hr
   ·simp only[Option.some.injEq,Prod.mk.injEq] at hr
    obtain⟨rfl,rfl⟩:=hr
    exact⟨k,rfl,hs⟩
   ·simp only[Option.some.injEq,Prod.mk.injEq] at hr
    obtain⟨rfl,rfl⟩:=hr
    exact⟨k,rfl,hs⟩
   ·simp at hr
 | binOp op t x y=>
   simp only[prim,x5,Prod.mk.injEq] at hr⊢
   obtain⟨cs,h2,rfl,rfl⟩:=hr
   exact⟨k,⟨cs,h2,rfl,rfl⟩,hs⟩
 | unOp op x=>
   simp only[prim,x5,Prod.mk.injEq] at hr⊢
   obtain⟨cs,h2,rfl,rfl⟩:=hr
   exact⟨k,⟨cs,h2,rfl,rfl⟩,hs⟩
 | cInt kd x=>
   simp only[prim] at hr⊢
   split at hr
   ·simp only[Option.some.injEq,Prod.mk.injEq] at hr
    obtain⟨rfl,rfl⟩:=hr
    exact⟨k,rfl,hs⟩
   ·simp at hr
 | cStr x=>
   simp only[prim] at hr⊢
   split at hr
   ·simp only[Option.some.injEq,Prod.mk.injEq] at hr
    obtain⟨rfl,rfl⟩:=hr
    exact⟨k,rfl,hs⟩
   ·simp at hr
 | toBytes x=>
   simp only[prim] at hr⊢
   split at hr
   ·simp only[Option.some.injEq,Prod.mk.injEq] at hr
    obtain⟨rfl,rfl⟩:=hr
    exact⟨k,rfl,hs⟩
   ·simp at hr
 | ofBytes x=>
   simp only[prim] at hr⊢
   have hids:∀ s∈(x.ev ts).ids,s∈S:=fun s hm=>hf s (by simp only[z3e,foot,x4];exact .inl hm)
   have hsrc:=x2i (h:=h) (k:=k) (v:=x.ev ts) (fun s hm=>hs s (hids s hm))
   split at hr
   ·simp at hr
   ·rw[hsrc] at hr
    simp only[x5,Prod.mk.injEq] at hr⊢
    obtain⟨cs,h2,rfl,rfl⟩:=hr
    exact⟨k,⟨cs,h2,rfl,rfl⟩,hs⟩
 | makeMap n=>
   simp only[prim,Option.some.injEq,Prod.mk.injEq] at hr⊢
   obtain⟨rfl,rfl⟩:=hr
   exact⟨_,⟨rfl,rfl⟩,hs.set _ _⟩
 | lookup t z x ix ok=>
   simp only[prim] at hr⊢
   have hids:∀ s∈(x.ev ts).ids,s∈S:=fun s hm=>hf s (by simp only[z3e,foot,x4];exact .inl hm)
   rw[j6l (h:=h) (k:=k) (v:=x.ev ts) (fun s hm=>hs s (hids s hm))] at hr
   split at hr
   ·split at hr
    ·rename_i hc
     rw[if_pos hc]
     simp only[x5,Prod.mk.injEq] at hr⊢
     obtain⟨cs,h2,rfl,rfl⟩:=hr
     exact⟨k,⟨cs,h2,rfl,rfl⟩,hs⟩
    ·simp at hr
   ·simp at hr
 | mapUpdate t m kk x=>
   simp only[prim] at hr⊢
   have hids:∀ s∈(m.ev ts).ids,s∈S:=fun s hm=>hf s (by simp only[z3e,foot,x4];exact .inr (.inl hm))
   have hobs:∀ s∈(x.ev ts).obs.map (·.1),s∈S:=fun s hm=>hf s (by simp only[z3e,foot,x4];exact .inr (.inr hm))
   split at hr
   ·rename_i s g heq
    have hb:z5d h s g=z5d k s g:=q5x (hs s (hids s (by simp[heq,AV.ids])))
    rw[hb] at hr
    split at hr
    ·rename_i es v1 h1' hes hpub
     obtain⟨k1',hpk,hsame⟩:=j2y hs hobs hpub
     split at hr
     ·rename_i hc
      simp only[x5,Prod.mk.injEq] at hr
      obtain⟨cs,h2,rfl,rfl⟩:=hr
      refine⟨_, ?_,hsame.set s _⟩
      rw[hes,hpk]
      simp only[if_pos hc,h2,j5]
     ·simp at hr
    ·simp at hr
   ·simp at hr
 | makeRow n z by_ l c=>
   simp only[prim] at hr⊢
   split at hr
   ·split at hr
    ·rename_i hc
     rw[if_pos hc]
     simp only[Option.some.injEq,Prod.mk.injEq] at hr
     obtain⟨rfl,rfl⟩:=hr
     exact⟨_,rfl,hs⟩
    ·rename_i hc
     rw[if_neg hc]
     split at hr
     ·rename_i hc
      rw[if_pos hc]
      simp only[Option.some.injEq,Prod.mk.injEq] at hr
      obtain⟨rfl,rfl⟩:=hr
      exact⟨_,rfl,hs.set _ _⟩
     ·simp at hr
   ·simp at hr
 | makeSlice n z by_ l c=>
   simp only[prim] at hr⊢
   split at hr
   ·split at hr
    ·rename_i hc
     rw[if_pos hc]
     simp only[Option.some.injEq,Prod.mk.injEq] at hr
     obtain⟨rfl,rfl⟩:=hr
     exact⟨_,rfl,hs.set _ _⟩
    ·simp at hr
   ·simp at hr
 | slice e x lo hi mx=>
   simp only[prim] at hr⊢
   have hids:∀ s∈(x.ev ts).ids,s∈S:=fun s hm=>hf s (by simp only[z3e,foot,x4];exact .inl hm)
   rw[x4f (h:=h) (k:=k) (v:=x.ev ts) (fun s hm=>hs s (hids s hm))] at hr
   simp only[x5,Prod.mk.injEq] at hr⊢
   obtain⟨cs,h2,rfl,rfl⟩:=hr
   exact⟨k,⟨cs,h2,rfl,rfl⟩,hs⟩
 | fieldAddr x o=>
   simp only[prim] at hr⊢
   split at hr
   ·simp only[Option.some.injEq,Prod.mk.injEq] at hr
    obtain⟨rfl,rfl⟩:=hr
    exact⟨k,rfl,hs⟩
   ·simp only[Option.some.injEq,Prod.mk.injEq] at hr
    obtain⟨rfl,rfl⟩:=hr
    exact⟨k,rfl,hs⟩
   ·simp at hr
 | field x o sz=>
   simp only[prim] at hr⊢
   split at hr
   ·simp only[x5,Prod.mk.injEq] at hr⊢
    obtain⟨cs,h2,rfl,rfl⟩:=hr
    exact⟨k,⟨cs,h2,rfl,rfl⟩,hs⟩
   ·simp at hr
 | indexAddr arr esz x ix=>
   simp only[prim] at hr⊢
   have hids:∀ s∈(x.ev ts).ids,s∈S:=fun s hm=>hf s (by simp only[z3e,foot,x4];exact .inl hm)
   split at hr
   ·split at hr
    ·rename_i h0
     rw[if_pos h0]
     split at hr
     ·split at hr
      ·split at hr
       ·rename_i hc
        rw[if_pos hc]
        simp only[Option.some.injEq,Prod.mk.injEq] at hr
        obtain⟨rfl,rfl⟩:=hr
        exact⟨k,rfl,hs⟩
       ·simp at hr
      ·simp at hr
     ·rename_i s g off len heq
      have hb:z2f h s g=z2f k s g:=z8a (hs s (hids s (by simp[heq,AV.ids])))
      rw[hb] at hr
      split at hr
      ·split at hr
       ·split at hr
        ·rename_i hc
         rw[if_pos hc]
         simp only[Option.some.injEq,Prod.mk.injEq] at hr
         obtain⟨rfl,rfl⟩:=hr
         exact⟨k,rfl,hs⟩
        ·simp at hr
       ·simp at hr
      ·simp at hr
     ·split at hr
      ·rename_i hc
       rw[if_pos hc]
       simp only[Option.some.injEq,Prod.mk.injEq] at hr
       obtain⟨rfl,rfl⟩:=hr
       exact⟨k,rfl,hs⟩
      ·simp at hr
     ·split at hr
      ·rename_i hc
       rw[if_pos hc]
       simp only[Option.some.injEq,Prod.mk.injEq] at hr
       obtain⟨rfl,rfl⟩:=hr
       exact⟨k,rfl,hs⟩
      ·simp at hr
     ·simp at hr
    ·simp at hr
   ·simp at hr
 | index arr x ix=>
   simp only[prim] at hr⊢
   split at hr
   ·split at hr
    ·rename_i h0
     rw[if_pos h0]
     split at hr
     ·simp only[x5,Prod.mk.injEq] at hr⊢
      obtain⟨cs,h2,rfl,rfl⟩:=hr
      exact⟨k,⟨cs,h2,rfl,rfl⟩,hs⟩
     ·split at hr
      ·rename_i hc
       rw[if_pos hc]
       simp only[x5,Prod.mk.injEq] at hr⊢
       obtain⟨cs,h2,rfl,rfl⟩:=hr
       exact⟨k,⟨cs,h2,rfl,rfl⟩,hs⟩
      ·simp at hr
     ·simp at hr
    ·simp at hr
   ·simp at hr
 | makeFunc f cap=>
   simp only[prim,Option.some.injEq,Prod.mk.injEq] at hr⊢
   obtain⟨rfl,rfl⟩:=hr
   exact⟨k,⟨rfl,rfl⟩,hs⟩
 | extract x i=>
   simp only[prim] at hr⊢
   split at hr
   ·simp only[x5,Prod.mk.injEq] at hr⊢
    obtain⟨cs,h2,rfl,rfl⟩:=hr
    exact⟨k,⟨cs,h2,rfl,rfl⟩,hs⟩
   ·simp at hr
 | len t x=>
   simp only[prim] at hr⊢
   have hids:∀ s∈(x.ev ts).ids,s∈S:=fun s hm=>hf s (by simp only[z3e,foot,x4];exact .inl hm)
   rw[j0d (h:=h) (k:=k) (v:=x.ev ts) (fun s hm=>hs s (hids s hm))] at hr
   simp only[x5,Prod.mk.injEq] at hr⊢
   obtain⟨cs,h2,rfl,rfl⟩:=hr
   exact⟨k,⟨cs,h2,rfl,rfl⟩,hs⟩
 | minmax m x y=>
   simp only[prim] at hr⊢
   split at hr
   ·simp only[Option.some.injEq,Prod.mk.injEq] at hr
    obtain⟨rfl,rfl⟩:=hr
    exact⟨k,rfl,hs⟩
   ·simp at hr
 | append n esz by_ mu x y=>
   simp only[prim] at hr⊢
   refine j0e hs (fun s hm=>hf s ?_) (fun s hm=>hf s ?_) hr
   ·simp only[z3e,foot,x4,j6]
    exact .inr (.inr hm)
   ·simp only[z3e,foot,x4]
    exact .inl hm
 | backward f x=>
   simp only[prim] at hr⊢
   split at hr
   ·rename_i hc
    rw[if_pos hc]
    simp only[Option.some.injEq,Prod.mk.injEq] at hr⊢
    obtain⟨rfl,rfl⟩:=hr
    exact⟨k,⟨rfl,rfl⟩,hs⟩
   ·simp at hr
 | call f xs=>simp[prim] at hr
 | callv x xs=>simp[prim] at hr
 | bad=>simp[prim] at hr
theorem z4z {h:List AObj} {i s:Nat} {o:AObj} (hn:s≠i):(h.set i o)[s]? =h[s]? :=y7 (Ne.symm hn)
theorem j6m {h h1:List AObj} {slot gen esz by_:Nat} {mu:Bool} {x y v:AV} (ha:z1a h slot gen esz by_ mu x y=some (v,h1)) (s:Nat) (hn:s∉slot::x.ids):h1[s]? =h[s]? :=by
 simp only[j6,not_or] at hn
 obtain⟨hn1,hn2⟩:=hn
 unfold z1a at ha
 split at ha
 ·simp at ha
 ·split at ha
  ·simp at ha
  ·split at ha
   ·split at ha
    ·simp at ha
    ·split at ha
     ·split at ha
      all_goals first
       | (simp at ha;done)
       | (simp only[Option.some.injEq,Prod.mk.injEq] at ha;obtain⟨_,rfl⟩:=ha;exact z4z hn1)
     ·split at ha
      ·simp only[Option.some.injEq,Prod.mk.injEq] at ha;obtain⟨_,rfl⟩:=ha;exact z4z hn1
      ·simp only[Option.some.injEq,Prod.mk.injEq] at ha;obtain⟨_,rfl⟩:=ha;exact z4z hn1
      ·rename_i q g
       split at ha
       ·split at ha
        ·simp only[Option.some.injEq,Prod.mk.injEq] at ha
         obtain⟨_,rfl⟩:=ha
         rw[z4z hn1,z4z (fun e=>hn2 (by subst e;simp[AV.ids]))]
        ·simp at ha
       ·simp at ha
      ·simp at ha
   ·rename_i q g off len
    have hq:s≠q:=fun e=>hn2 (by subst e;simp[AV.ids])
    repeat' split at ha
    all_goals first
     | (simp at ha;done)
     | (simp only[Option.some.injEq,Prod.mk.injEq] at ha;obtain⟨_,rfl⟩:=ha;first | rfl | (rw[z4z hn1,z4z hq];done) | (rw[z4z hq];done) | (rw[z4z hn1];done))
   ·simp at ha
theorem z9d {h h1:List AObj} {base gen:Nat} {ts:Tmps} {a:AOp} {v:AV} (hr:prim h base gen ts a=some (v,h1)) (s:Nat) (hn:s∉(z3e base ts a).2):h1[s]? =h[s]? :=by
 cases a with
 | append k esz by_ mu x y=>exact j6m hr s (by simpa only[z3e,foot] using hn)
 | alloc n z=>
   simp only[prim] at hr
   split at hr
   ·simp at hr
   ·simp only[Option.some.injEq,Prod.mk.injEq] at hr
    obtain⟨_,rfl⟩:=hr
    exact z4z (by simpa [z3e,foot] using hn)
 | box n z=>
   simp only[prim] at hr
   split at hr
   ·simp at hr
   ·simp only[Option.some.injEq,Prod.mk.injEq] at hr
    obtain⟨_,rfl⟩:=hr
    exact z4z (by simpa [z3e,foot] using hn)
 | makeMap n=>
   simp only[prim,Option.some.injEq,Prod.mk.injEq] at hr
   obtain⟨_,rfl⟩:=hr
   exact z4z (by simpa [z3e,foot] using hn)
 | makeSlice n z by_ l c=>
   simp only[prim] at hr
   repeat' split at hr
   all_goals first
    | (simp at hr;done)
    | (simp only[Option.some.injEq,Prod.mk.injEq] at hr;obtain⟨_,rfl⟩:=hr;exact z4z (by simpa [z3e,foot] using hn))
 | makeRow n z by_ l c=>
   simp only[prim] at hr
   repeat' split at hr
   all_goals first
    | (simp at hr;done)
    | (simp only[Option.some.injEq,Prod.mk.injEq] at hr;obtain⟨_,rfl⟩:=hr;first | rfl | exact z4z (by simpa [z3e,foot] using hn))
 | buildSlice n mu z m ps=>
   simp only[z3e,foot,x4,not_or] at hn
   simp only[prim] at hr
   split at hr
   ·simp at hr
   ·split at hr
    ·simp only[x5] at hr
     obtain⟨es,_,h3⟩:=hr
     cases mu with
     | true=>
       simp only[if_true,Prod.mk.injEq] at h3
       obtain⟨_,rfl⟩:=h3
       rw[z4z (by simpa using hn.1),z5f _ _ hn.2]
     | false=>
       simp only[j9,if_false,Prod.mk.injEq] at h3
       obtain⟨_,rfl⟩:=h3
       exact z5f _ _ hn.2
    ·simp at hr
 | store sz x y=>
   simp only[z3e,foot,x4,not_or] at hn
   simp only[prim] at hr
   split at hr
   ·rename_i q g i o heq
    have hq:s≠q:=fun e=>hn.1 (by subst e;simp[heq,AV.ids])
    split at hr
    ·rename_i es row grow fz hbk
     split at hr
     ·rename_i e v1 h1' he hpub
      have hp:h1'[s]? =h[s]? :=by
       cases row with
       | true=>
         simp only[if_true] at hpub
         exact j9k hpub s hn.2
       | false=>
         simp only[j9,if_false,Option.some.injEq,Prod.mk.injEq] at hpub
         obtain⟨_,rfl⟩:=hpub
         rfl
      split at hr
      ·simp only[x5,Prod.mk.injEq] at hr
       obtain⟨cs,_,_,rfl⟩:=hr
       rw[z4z hq,hp]
      ·simp at hr
     ·simp at hr
    ·simp at hr
   ·simp at hr
 | mapUpdate t m kk x=>
   simp only[z3e,foot,x4,not_or] at hn
   simp only[prim] at hr
   split at hr
   ·rename_i q g heq
    have hq:s≠q:=fun e=>hn.1 (by subst e;simp[heq,AV.ids])
    split at hr
    ·rename_i es v1 h1' hes hpub
     split at hr
     ·simp only[x5,Prod.mk.injEq] at hr
      obtain⟨cs,_,_,rfl⟩:=hr
      rw[z4z hq,j9k hpub s hn.2]
     ·simp at hr
    ·simp at hr
   ·simp at hr
 | _=>
   simp only[prim] at hr
   repeat' split at hr
   all_goals first
    | (simp at hr;done)
    | (simp only[Option.some.injEq,Prod.mk.injEq] at hr;obtain⟨_,rfl⟩:=hr;rfl)
    | (simp only[x5,Prod.mk.injEq] at hr;obtain⟨_,_,_,rfl⟩:=hr;rfl)
    | (simp only[Option.bind_eq_some_iff,x5,Prod.mk.injEq] at hr;obtain⟨_,_,_,_,_,rfl⟩:=hr;rfl)
mutual
theorem beq_sound:∀ {a b:AV},a.beq b=true→a=b
 | .undef,b,h=>by cases b <;> simp[AV.beq] at h⊢
 | .int ..,b,h=>by cases b <;> simp[AV.beq] at h⊢;exact h
 | .bool _,b,h=>by cases b <;> simp[AV.beq] at h⊢;exact h
 | .str _,b,h=>by cases b <;> simp[AV.beq] at h⊢;exact h
 | .agg _,b,h=>by cases b <;> simp[AV.beq] at h⊢;exact z6e h
 | .tup _,b,h=>by cases b <;> simp[AV.beq] at h⊢;exact z6e h
 | .sl _ _,b,h=>by cases b <;> simp[AV.beq] at h⊢;exact⟨z6e h.1,h.2⟩
 | .ob ..,b,h=>by cases b <;> simp[AV.beq] at h⊢;simp[h]
 | .ptr ..,b,h=>by cases b <;> simp[AV.beq] at h⊢;simp[h]
 | .iptr _ _,b,h=>by cases b <;> simp[AV.beq] at h⊢;exact⟨z6e h.1,h.2⟩
 | .nilptr,b,h=>by cases b <;> simp[AV.beq] at h⊢
 | .mp ..,b,h=>by cases b <;> simp[AV.beq] at h⊢;simp[h]
 | .nilmap,b,h=>by cases b <;> simp[AV.beq] at h⊢
 | .fn _ _,b,h=>by cases b <;> simp[AV.beq] at h⊢;exact⟨h.1,z6e h.2⟩
 | .nilfn,b,h=>by cases b <;> simp[AV.beq] at h⊢
 | .nilif,b,h=>by cases b <;> simp[AV.beq] at h⊢
 | .bwd _ _,b,h=>by cases b <;> simp[AV.beq] at h⊢;exact⟨h.1,beq_sound h.2⟩
theorem z6e:∀ {a b:List AV},j5u a b=true→a=b
 | [],b,h=>by cases b <;> simp[j5u] at h⊢
 | x::xs,b,h=>by cases b <;> simp[j5u] at h⊢;exact⟨beq_sound h.1,z6e h.2⟩
end
theorem x2j:∀ {a b:List (AV×AV)},v0y a b=true→a=b
 | [],b,h=>by cases b <;> simp[v0y] at h⊢
 | x::xs,b,h=>by
   cases b with
   | nil=>simp[v0y] at h
   | cons y ys=>
     simp only[v0y,y4] at h
     rw[x2j h.2,Prod.ext (beq_sound h.1.1) (beq_sound h.1.2)]
theorem AObj.beq_sound {a b:AObj} (h:a.beq b=true):a=b:=by
 cases a <;> cases b <;> simp[AObj.beq] at h⊢
 ·obtain⟨⟨⟨⟨h1,h2⟩,h3⟩,h4⟩,h5⟩:=h
  exact⟨h1,z6e h2,h3,h4,h5⟩
 ·exact h
 ·exact⟨h.1,x2j h.2⟩
theorem q8y {h:List AObj}:∀ (n:Nat) (seen z8w:List Nat) (s:Nat),s∈seen→s∈reach h n seen z8w
 | 0,seen,z8w,s,hs=>by simp[reach,hs]
 | n + 1,seen,[],s,hs=>by simpa [reach] using hs
 | n + 1,seen,t::z8w,s,hs=>by
   simp only[reach]
   split
   ·exact q8y n seen z8w s hs
   ·exact q8y n _ _ s (v7 _ hs)
theorem q2n {h k:List AObj}:∀ (n:Nat) (seen z8w:List Nat),Same (reach h n seen z8w) h k→reach k n seen z8w=reach h n seen z8w
 | 0,seen,z8w,_=>rfl
 | n + 1,seen,[],_=>rfl
 | n + 1,seen,t::z8w,hs=>by
   simp only[reach] at hs⊢
   split
   ·rename_i hc
    rw[if_pos hc] at hs
    exact q2n n seen z8w hs
   ·rename_i hc
    rw[if_neg hc] at hs
    have ht:h[t]? =k[t]? :=hs t (q8y n _ _ t (j7))
    rw[←ht]
    exact q2n n _ _ hs
theorem z7s {h k:List AObj} {byref:List Nat}:∀ {args:List AV} {i:Nat},Same ((z4u args).map (·.1)) h k→z1q h byref i args=z1q k byref i args
 | [],_,_=>rfl
 | v::vs,i,hs=>by
   simp only[z1q]
   rw[q8x (v:=v) (fun s hm=>hs s (by simp only[z4u,v8,x4];exact .inl hm)),z7s (args:=vs) (fun s hm=>hs s (by simp only[z4u,v8,x4];exact .inr hm))]
theorem z9u {T:List Nat}:∀ {h h':List AObj} {k i:Nat},(z0n T k h h')[i]? =match h[i]? with
  | none=>none
  | some o=>match h'[i]? with
    | none=>some o
    | some o'=>some (if T.contains (k + i) then o' else o)
 | [],h',k,i=>by cases h' <;> simp[z0n]
 | o::h,[],k,i=>by
   simp only[z0n,List.getElem?_nil]
   cases (o::h)[i]? <;> rfl
 | o::h,o'::h',k,i=>by
   cases i with
   | zero=>simp[z0n]
   | succ i=>
     simp only[z0n,List.getElem?_cons_succ,z9u]
     rw[show k + 1 + i=k + (i + 1) by omega]
theorem z2a {T:List Nat}:∀ {h h':List AObj} {k:Nat},(z0n T k h h').length=h.length
 | [],h',_=>by cases h' <;> rfl
 | o::h,[],_=>rfl
 | o::h,o'::h',k=>by simp[z0n,z2a (h:=h) (h':=h')]
theorem j9l {T:List Nat} {h k:List AObj} (hl:k.length=h.length) (hs:Same T h k):maskFrom T 0 h=maskFrom T 0 k:=by
 apply List.ext_getElem?
 intro i
 rw[z9b,z9b,Nat.zero_add]
 by_cases ht:T.contains i=true
 ·rw[hs i (by simpa using ht)]
 ·have ht:T.contains i=false:=by simpa using ht
  simp only[ht,j9,if_false]
  by_cases hi:i < h.length
  ·rw[v9 hi,v9 (show i < k.length by omega)]
   rfl
  ·rw[p9 (by omega),p9 (show k.length≤i by omega)]
structure Alike (n:Nat) (h k h1 k1:List AObj):Prop where
 len:k1.length=h1.length
 new:∀ s,n≤s→k1[s]? =h1[s]?
 old:∀ s,s < n→h[s]? =k[s]? →h1[s]? =k1[s]?
theorem Alike.merge {T:List Nat} {h k h0 k0 hr:List AObj} (hl:k.length=h.length) (hl1:k0.length=h.length) (hl2:h0.length=h.length) (hp:∀ (s:Nat),h[s]? =k[s]? →h0[s]? =k0[s]?):Alike h.length h k (z0n T 0 h0 hr) (z0n T 0 k0 hr)∧Alike h.length h k (z0n T 0 h0 hr++hr.drop h.length) (z0n T 0 k0 hr++hr.drop k.length):=by
 have hget:∀ s,h[s]? =k[s]? →(z0n T 0 h0 hr)[s]? =(z0n T 0 k0 hr)[s]? :=fun s he=>by
  rw[z9u,z9u,hp s he]
 refine⟨⟨by rw[z2a,z2a];omega,fun s hs=> ?_,fun s _ he=>hget s he⟩,⟨by simp[z2a];omega,fun s hs=> ?_,fun s hs he=> ?_⟩⟩
 ·rw[p9 (by rw[z2a];omega),p9 (by rw[z2a];omega)]
 ·rw[b0 (by rw[z2a];omega),b0 (by rw[z2a];omega),z2a,z2a,hl,hl1,hl2]
 ·rw[g9 (by rw[z2a];omega),g9 (by rw[z2a];omega)]
  exact hget s he
theorem x7m {R:Nat→ACode→St→Option (AEx×St)} {Γ:AProg} {f:Nat} {args:List AV} {h k h1:List AObj} {clk c:Nat} {v:AV} (hl:k.length=h.length) (hs:Same (z0z Γ f args h) h k)
  (hr:z0k R Γ f args h clk=some (v,h1,c)):∃ k1,z0k R Γ f args k clk=some (v,k1,c)∧Alike h.length h k h1 k1:=by
 have hobs:Same ((z4u args).map (·.1)) h k:=fun s hm=>hs s (by simp only[z0z,x4];exact .inl hm)
 unfold z0k at hr⊢
 cases hext:Γ.ext f with
 | some sem=>
   simp only[hext] at hr⊢
   rw[←z7s hobs]
   split at hr
   ·rename_i asx hpass
    split at hr
    ·rename_i hlent
     rw[if_pos hlent]
     simp only[x5,Prod.mk.injEq] at hr⊢
     obtain⟨v0,h2,rfl,rfl,rfl⟩:=hr
     exact⟨k,⟨v0,h2,rfl,rfl,rfl⟩,⟨hl,fun s hge=>by rw[p9 (by omega),p9 (by omega)],fun s _ he=>he⟩⟩
    ·simp at hr
   ·simp at hr
 | none=>
   simp only[hext] at hr⊢
   cases hfn:Γ.fn f with
   | none=>simp[hfn] at hr
   | some af=>
     simp only[hfn] at hr⊢
     rw[←z7s hobs]
     cases hpass:z1q h af.byref 0 args with
     | none=>simp[hpass] at hr
     | some asx=>
       simp only[hpass] at hr⊢
       have hT:Same (reach h (h.length + 1) [] (z0i asx)) h k:=fun s hm=>hs s (by simp only[z0z,hext,hfn,hpass,x4];exact .inr hm)
       have hreach:reach k (k.length + 1) [] (z0i asx)=reach h (h.length + 1) [] (z0i asx):=by rw[hl];exact q2n _ _ _ hT
       have hfs:=hT.freezeAll (z0p af.byref 0 args)
       have hmask:=j9l (by rw[z2l,z2l];exact hl) hfs
       rw[hreach,←hmask,hl]
       have hfl:=z2l (z0p af.byref 0 args) h
       have hfk:=z2l (z0p af.byref 0 args) k
       have hpt:∀ (s:Nat),h[s]? =k[s]? →(freezeAll h (z0p af.byref 0 args))[s]? =(freezeAll k (z0p af.byref 0 args))[s]? :=fun s he=>
        (Same.freezeAll (S:=[s]) (fun q hq=>by simp at hq;subst hq;exact he) _) s (by simp)
       generalize freezeAll h (z0p af.byref 0 args)=hf at *
       generalize freezeAll k (z0p af.byref 0 args)=kf at *
       generalize reach h (h.length + 1) [] (z0i asx)=T at *
       split at hr
       ·simp at hr
       ·simp at hr
       ·rename_i e s hno hx
        split at hr
        ·simp at hr
        ·rename_i vs hvs
         split at hr
         ·simp at hr
         ·rename_i v0 hconv
          generalize (if af.owned=true then s.h else freezeAll s.h (z1k vs).obs)=hrr at *
          have key:∀ h0 k0:List AObj,k0.length=h.length→h0.length=h.length→(∀ (s:Nat),h[s]? =k[s]? →h0[s]? =k0[s]?)→
           (if ((v0.ids++(T.map fun i=>((hrr[i]?).map AObj.ids).getD []).flatten).all (· < h.length))=true then some (v0,z0n T 0 h0 hrr,clk) else some (v0,z0n T 0 h0 hrr++hrr.drop h.length,s.clk))=some (v,h1,c)→
           ∃ k1,(if ((v0.ids++(T.map fun i=>((hrr[i]?).map AObj.ids).getD []).flatten).all (· < h.length))=true then some (v0,z0n T 0 k0 hrr,clk) else some (v0,z0n T 0 k0 hrr++hrr.drop h.length,s.clk))=some (v,k1,c)∧Alike h.length h k h1 k1:=by
           intro h0 k0 g1 g2 g3 hq
           obtain⟨a1,a2⟩:=Alike.merge (T:=T) (hr:=hrr) hl g1 g2 g3
           split at hq
           ·rename_i hc
            rw[if_pos hc]
            simp only[Option.some.injEq,Prod.mk.injEq] at hq
            obtain⟨rfl,rfl,rfl⟩:=hq
            exact⟨_,rfl,a1⟩
           ·rename_i hc
            rw[if_neg hc]
            simp only[Option.some.injEq,Prod.mk.injEq] at hq
            obtain⟨rfl,rfl,rfl⟩:=hq
            rw[hl] at a2
            exact⟨_,rfl,a2⟩
          by_cases hflat:(v0.flat && T.isEmpty)=true
          ·simp only[if_pos hflat] at hr⊢
           exact key h k hl rfl (fun _ he=>he) hr
          ·simp only[if_neg hflat] at hr⊢
           exact key hf kf (by rw[hfk,hl]) hfl hpt hr
theorem q4q {byref:List Nat}:∀ {args:List AV} {i:Nat} {x:Nat×Nat},x∈z0p byref i args→x∈z4u args
 | [],_,_,h=>by simp[z0p] at h
 | v::vs,i,x,h=>by
   simp only[z0p,x4] at h
   simp only[z4u,x4]
   rcases h with h | h
   ·split at h
    ·simp at h
    ·exact .inl h
   ·exact .inr (q4q h)
theorem q4r {Γ:AProg} {f:Nat} {args:List AV} {h k:List AObj} (hl:k.length=h.length) (hs:Same (z0z Γ f args h) h k):z0z Γ f args k=z0z Γ f args h:=by
 have hobs:Same ((z4u args).map (·.1)) h k:=fun s hm=>hs s (by simp only[z0z,x4];exact .inl hm)
 unfold z0z at hs⊢
 cases hext:Γ.ext f with
 | some sem=>rfl
 | none=>
   simp only[hext] at hs⊢
   cases hfn:Γ.fn f with
   | none=>rfl
   | some af=>
     simp only[hfn] at hs⊢
     rw[←z7s hobs]
     cases hpass:z1q h af.byref 0 args with
     | none=>rfl
     | some asx=>
       simp only[hpass] at hs⊢
       rw[hl,q2n _ _ _ fun s hm=>hs s (p7 _ hm)]
theorem q2o {R:Nat→ACode→St→Option (AEx×St)} {Γ:AProg} {f:Nat} {args:List AV} {h h1:List AObj} {clk c:Nat} {v:AV}
  (hr:z0k R Γ f args h clk=some (v,h1,c)):h.length≤h1.length∧∀ s,s < h.length→s∉z0z Γ f args h→h1[s]? =h[s]? :=by
 unfold z0k at hr
 unfold z0z
 cases hext:Γ.ext f with
 | some sem=>
   simp only[hext] at hr
   split at hr
   ·split at hr
    ·simp only[x5,Prod.mk.injEq] at hr
     obtain⟨v0,h2,rfl,rfl,rfl⟩:=hr
     exact⟨x7 _,fun _ _ _=>rfl⟩
    ·simp at hr
   ·simp at hr
 | none=>
   simp only[hext] at hr⊢
   cases hfn:Γ.fn f with
   | none=>simp[hfn] at hr
   | some af=>
     simp only[hfn] at hr⊢
     cases hpass:z1q h af.byref 0 args with
     | none=>simp[hpass] at hr
     | some asx=>
       simp only[hpass] at hr⊢
       have hfl:=z2l (z0p af.byref 0 args) h
       have hfo:∀ s,s∉(z4u args).map (·.1)→(freezeAll h (z0p af.byref 0 args))[s]? =h[s]? :=fun s hn=>
        z5f _ _ fun hm=>hn (by
         obtain⟨x,hx,rfl⟩:=w0.1 hm
         exact w0.2 ⟨x,q4q hx,rfl⟩)
       generalize freezeAll h (z0p af.byref 0 args)=hf at *
       generalize reach h (h.length + 1) [] (z0i asx)=T at *
       split at hr
       ·simp at hr
       ·simp at hr
       ·rename_i e s hno hx
        split at hr
        ·simp at hr
        ·rename_i vs hvs
         split at hr
         ·simp at hr
         ·rename_i v0 hconv
          generalize (if af.owned=true then s.h else freezeAll s.h (z1k vs).obs)=hrr at *
          have hpre:∃ h0:List AObj,(if (v0.flat && T.isEmpty)=true then h else hf)=h0∧h0.length=h.length∧∀ s,s∉(z4u args).map (·.1)→h0[s]? =h[s]? :=by
           refine⟨_,rfl, ?_, ?_⟩
           ·split
            ·rfl
            ·exact hfl
           ·intro s hn
            split
            ·rfl
            ·exact hfo s hn
          obtain⟨h0,he,h0l,h0o⟩:=hpre
          rw[he] at hr
          have key:∀ s,s < h.length→s∉(z4u args).map (·.1)++T→(z0n T 0 h0 hrr)[s]? =h[s]? :=fun s hs hn=>by
           simp only[x4,not_or] at hn
           rw[z9u,h0o s hn.1,v9 hs]
           simp only
           split
           ·rfl
           ·rw[if_neg (by simpa using hn.2)]
          split at hr
          ·simp only[Option.some.injEq,Prod.mk.injEq] at hr
           obtain⟨rfl,rfl,rfl⟩:=hr
           exact⟨by rw[z2a,h0l];exact x7 _,key⟩
          ·simp only[Option.some.injEq,Prod.mk.injEq] at hr
           obtain⟨rfl,rfl,rfl⟩:=hr
           refine⟨by rw[List.length_append,z2a,h0l];omega,fun s hs hn=> ?_⟩
           rw[g9 (by rw[z2a,h0l];exact hs)]
           exact key s hs hn
theorem q3p {F:List Nat} {h h1:List AObj} {s:Nat} (hs:s < h.length) (hl:h.length≤h1.length) (ho:s∉F→h1[s]? =h[s]?) (hn:s∉(z3k F h h1).2):h1[s]? =h[s]? :=by
 by_cases hF:s∈F
 ·simp only[z3k,List.mem_filter,hF,true_and,Bool.not_eq_eq_eq_not,Bool.not_true,Bool.not_eq_false] at hn
  have:=AObj.beq_sound hn
  simp only[List.getD,v9 hs,v9 (show s < h1.length by omega),Option.getD_some] at this
  rw[v9 hs,v9 (show s < h1.length by omega),this]
 ·exact ho hF
theorem q6z {F:List Nat} {h h1 k k1:List AObj} (h0:∀ s∈F,k[s]? =h[s]?) (h2:∀ s∈F,k1[s]? =h1[s]?):z3k F k k1=z3k F h h1:=by
 unfold z3k
 congr 1
 apply List.filter_congr
 intro s hs
 simp only[List.getD,h0 s hs,h2 s hs]
def Agree (l:List Nat) (ts ts':Tmps):Prop:=∀ t∈l,ts t=ts' t
theorem Agree.left {a b:List Nat} {ts ts':Tmps} (h:Agree (a++b) ts ts'):Agree a ts ts':=fun t ht=>h t (List.mem_append_left _ ht)
theorem Agree.right {a b:List Nat} {ts ts':Tmps} (h:Agree (a++b) ts ts'):Agree b ts ts':=fun t ht=>h t (p7 _ ht)
theorem z0o {ts ts':Tmps} {x:AOpd} (h:Agree x.tmps ts ts'):x.ev ts=x.ev ts':=by
 cases x with
 | tmp t=>exact h t (by simp[AOpd.tmps])
 | const v=>rfl
theorem q8z {ts ts':Tmps} {x:Option AOpd} (h:Agree (y4e x) ts ts'):x.map (·.ev ts)=x.map (·.ev ts'):=by
 cases x with
 | none=>rfl
 | some x=>simp only[j5,z0o (x:=x) h]
theorem q9a {ts ts':Tmps} {xs:List AOpd} (h:Agree (xs.flatMap AOpd.tmps) ts ts'):xs.map (·.ev ts)=xs.map (·.ev ts'):=
 List.map_congr_left fun x hx=>z0o fun t ht=>h t (List.mem_flatMap.2 ⟨x,hx,ht⟩)
theorem q9b {α:Type} {ts ts':Tmps} {xs:List α} {g:α→AOpd} (h:Agree (xs.flatMap fun p=>(g p).tmps) ts ts') (x:α) (hx:x∈xs):(g x).ev ts=(g x).ev ts':=
 z0o fun t ht=>h t (List.mem_flatMap.2 ⟨x,hx,ht⟩)
theorem j6n {h:List AObj} {base gen:Nat} {ts ts':Tmps} {op:AOp} (hr:Agree op.reads ts ts'):prim h base gen ts op=prim h base gen ts' op:=by
 cases op <;> simp only[AOp.reads] at hr
 case move x=>simp only[prim,z0o hr]
 case box k x=>simp only[prim,z0o hr]
 case load sz x=>simp only[prim,z0o hr]
 case nilCheck x=>simp only[prim,z0o hr]
 case unOp o x=>simp only[prim,z0o hr]
 case cInt k x=>simp only[prim,z0o hr]
 case cStr x=>simp only[prim,z0o hr]
 case toBytes x=>simp only[prim,z0o hr]
 case ofBytes x=>simp only[prim,z0o hr]
 case fieldAddr x o=>simp only[prim,z0o hr]
 case field x o s=>simp only[prim,z0o hr]
 case extract x i=>simp only[prim,z0o hr]
 case len t x=>simp only[prim,z0o hr]
 case backward f x=>simp only[prim,z0o hr]
 case pick c a b=>
  have h1:=z0o hr.left.left
  have h2:=z0o hr.left.right
  have h3:=z0o hr.right
  simp only[prim,h1]
  split
  ·rename_i t _
   cases t <;> simp[h2,h3]
  ·rfl
 case alloc=>rfl
 case makeMap=>rfl
 case bad=>rfl
 case build z ps=>
  simp only[prim]
  rw[List.map_congr_left (f:=fun p:Nat×Nat×AOpd=>(p.1,p.2.1,p.2.2.ev ts)) (g:=fun p=>(p.1,p.2.1,p.2.2.ev ts')) fun p hp=>by rw[q9b hr p hp]]
 case buildSlice k mu z n ps=>
  simp only[prim]
  rw[List.map_congr_left (f:=fun p:Nat×AOpd=>p.2.ev ts) (g:=fun p=>p.2.ev ts') fun p hp=>by rw[q9b hr p hp]]
 case store s a x=>simp only[prim,z0o hr.left,z0o hr.right]
 case binOp o t x y=>simp only[prim,z0o hr.left,z0o hr.right]
 case lookup t z x ix ok=>simp only[prim,z0o hr.left,z0o hr.right]
 case mapUpdate t m k v=>simp only[prim,z0o hr.left.left,z0o hr.left.right,z0o hr.right]
 case makeSlice k z b l c=>simp only[prim,z0o hr.left,z0o hr.right]
 case makeRow k z b l c=>simp only[prim,z0o hr.left,z0o hr.right]
 case slice e x lo hi mx=>simp only[prim,z0o hr.left.left.left,q8z hr.left.left.right,q8z hr.left.right,q8z hr.right]
 case indexAddr a e x ix=>simp only[prim,z0o hr.left,z0o hr.right]
 case index a x ix=>simp only[prim,z0o hr.left,z0o hr.right]
 case makeFunc f cap=>simp only[prim,q9a hr]
 case minmax m x y=>simp only[prim,z0o hr.left,z0o hr.right]
 case append k e b mu x y=>simp only[prim,z0o hr.left,z0o hr.right]
 case call=>rfl
 case callv=>rfl
theorem j0f {base:Nat} {ts ts':Tmps} {op:AOp} (hp:op.isCall=false) (hr:Agree op.reads ts ts'):z3e base ts op=z3e base ts' op:=by
 cases op <;> simp only[AOp.reads] at hr <;> simp only[z3e,foot]
 case load sz x=>rw[z0o hr]
 case store s a x=>rw[z0o hr.left,z0o hr.right]
 case buildSlice k mu z n ps=>rw[List.map_congr_left (f:=fun p:Nat×AOpd=>p.2.ev ts) (g:=fun p=>p.2.ev ts') fun p hp=>by rw[q9b hr p hp]]
 case ofBytes x=>rw[z0o hr]
 case lookup t z x ix ok=>rw[z0o hr.left]
 case mapUpdate t m k v=>rw[z0o hr.left.left,z0o hr.right]
 case slice e x lo hi mx=>rw[z0o hr.left.left.left]
 case indexAddr a e x ix=>rw[z0o hr.left]
 case len t x=>rw[z0o hr]
 case append k e b mu x y=>rw[z0o hr.left,z0o hr.right]
 case call=>simp[AOp.isCall] at hp
 case callv=>simp[AOp.isCall] at hp
inductive Todo where
 | prim (op:AOp)
 | call (f:Nat) (args:List AV)
def Todo.isCall:Todo→Bool
 | .prim _=>false
 | .call .. =>true
def y4g:AOp:= .move (.const (.tup []))
def q1c (ts:Tmps):AOp→Option Todo
 | .call f args=>some (.call f (args.map (·.ev ts)))
 | .callv x args=>match x.ev ts with
   | .fn f cap=>some (.call f (args.map (·.ev ts)++cap))
   | _=>none
 | op=>some (.prim op)
def z8w (ts:Tmps) (o:AOper):Option Todo:=
 match z5n ts o.guard with
 | some true=>q1c ts o.op
 | some false=>some (.prim y4g)
 | none=>none
def doT (C:Caller) (base gen:Nat) (ts:Tmps) (h:List AObj) (clk:Nat):Todo→Option (AV×List AObj×Nat)
 | .prim op=>(Am.prim h base gen ts op).map fun r=>(r.1,r.2,clk)
 | .call f args=>C f args h clk
def q3q (Γ:AProg) (base:Nat) (ts:Tmps) (h h':List AObj):Todo→List Nat×List Nat
 | .prim op=>z3e base ts op
 | .call f args=>z3k (z0z Γ f args h) h h'
def footOfK (Γ:AProg) (base:Nat) (o:AOper) (s s':St):List Nat×List Nat:=
 if z5n s.ts o.guard=some true then foot Γ s.h s'.h base s.ts o.op else ([],[])
theorem z9v {C:Caller} {base gen:Nat} {o:AOper} {s s':St} (hs:stepA C base gen o s=some s'):
  ∃ t v h c,z8w s.ts o=some t∧doT C base gen s.ts s.h s.clk t=some (v,h,c)∧s'=⟨z8g s.ts o.dst v,h,c⟩∧∀ Γ,footOfK Γ base o s s'=q3q Γ base s.ts s.h h t:=by
 unfold stepA at hs
 unfold z8w footOfK
 split at hs
 ·rename_i hw
  simp only[hw]
  obtain⟨dst,op,guard⟩:=o
  cases op
  case call f args=>
   simp only at hs
   split at hs
   ·rename_i v h c hc
    simp only[Option.some.injEq] at hs
    subst hs
    exact⟨_,v,h,c,rfl,hc,rfl,fun Γ=>rfl⟩
   ·simp at hs
  case callv x args=>
   simp only at hs
   split at hs
   ·rename_i f cap hx
    split at hs
    ·rename_i v h c hc
     simp only[Option.some.injEq] at hs
     subst hs
     refine⟨.call f (args.map (·.ev s.ts)++cap),v,h,c,by simp only[q1c,hx],hc,rfl,fun Γ=> ?_⟩
     simp only[foot,hx,q3q,if_true]
    ·simp at hs
   ·simp at hs
  all_goals
   simp only at hs
   split at hs
   ·rename_i v h hc
    simp only[Option.some.injEq] at hs
    subst hs
    exact⟨_,v,h,s.clk,rfl,by simp only[doT,hc,j5],rfl,fun Γ=>rfl⟩
   ·simp at hs
 ·rename_i hw
  simp only[Option.some.injEq] at hs
  subst hs
  exact⟨.prim y4g, .tup [],s.h,s.clk,by simp only[hw],rfl,rfl,fun Γ=>by rw[if_neg (by simp[hw])];rfl⟩
 ·simp at hs
theorem j2z {C:Caller} {base gen:Nat} {o:AOper} {s:St} {t:Todo} {v:AV} {h:List AObj} {c:Nat} (ht:z8w s.ts o=some t) (hd:doT C base gen s.ts s.h s.clk t=some (v,h,c)):
  stepA C base gen o s=some ⟨z8g s.ts o.dst v,h,c⟩:=by
 unfold z8w at ht
 unfold stepA
 split at ht
 ·rename_i hw
  simp only[hw]
  obtain⟨dst,op,guard⟩:=o
  cases op
  case call f args=>
   simp only[q1c,Option.some.injEq] at ht
   subst ht
   simp only[doT] at hd
   simp only[hd]
  case callv x args=>
   simp only[q1c] at ht
   split at ht
   ·rename_i f cap hx
    simp only[Option.some.injEq] at ht
    subst ht
    simp only[doT] at hd
    simp only[hx,hd]
   ·simp at ht
  all_goals
   simp only[q1c,Option.some.injEq] at ht
   subst ht
   simp only[doT,x5,Prod.mk.injEq] at hd
   obtain⟨⟨v',h'⟩,hp,rfl,rfl,rfl⟩:=hd
   simp only[hp]
 ·rename_i hw
  simp only[Option.some.injEq] at ht
  subst ht
  simp only[doT,y4g,prim,AOpd.ev,j5,Option.some.injEq,Prod.mk.injEq] at hd
  obtain⟨rfl,rfl,rfl⟩:=hd
  simp only[hw]
 ·simp at ht
theorem z9e {ts:Tmps} {o:AOper} {t:Todo} (ht:z8w ts o=some t) (hc:o.op.isCall=false):t.isCall=false:=by
 unfold z8w at ht
 split at ht
 ·obtain⟨dst,op,guard⟩:=o
  cases op <;> simp[AOp.isCall] at hc <;> (simp only[q1c,Option.some.injEq] at ht;subst ht;rfl)
 ·simp only[Option.some.injEq] at ht
  subst ht
  rfl
 ·simp at ht
theorem x7n {ts:Tmps} {o:AOper} {op:AOp} (ht:z8w ts o=some (.prim op)):(op=o.op∨op=y4g)∧op.isCall=false:=by
 unfold z8w at ht
 split at ht
 ·obtain⟨dst,op',guard⟩:=o
  cases op'
  case callv x args=>
   simp only[q1c] at ht
   split at ht <;> simp at ht
  case call x args=>simp[q1c] at ht
  all_goals
   simp only[q1c,Option.some.injEq,Todo.prim.injEq] at ht
   subst ht
   exact⟨.inl rfl,rfl⟩
 ·simp only[Option.some.injEq,Todo.prim.injEq] at ht
  subst ht
  exact⟨.inr rfl,rfl⟩
 ·simp at ht
theorem x4g {ts ts':Tmps} {o:AOper} (h:Agree o.reads ts ts'):z5n ts o.guard=z5n ts' o.guard:=by
 unfold z5n
 cases hg:o.guard with
 | none=>rfl
 | some g=>
   obtain⟨t,b⟩:=g
   have:ts t=ts' t:=h t (by simp[AOper.reads,hg])
   simp only[this]
theorem x7o {ts ts':Tmps} {op:AOp} (h:Agree op.reads ts ts'):q1c ts op=q1c ts' op:=by
 cases op <;> simp only[AOp.reads] at h <;> simp only[q1c]
 case call f args=>rw[q9a h]
 case callv x args=>rw[z0o h.left,q9a h.right]
theorem x2k {ts ts':Tmps} {o:AOper} (h:Agree o.reads ts ts'):z8w ts o=z8w ts' o:=by
 unfold z8w
 rw[x4g h,x7o (h.left)]
theorem x7p {C:Caller} {base gen clk:Nat} {ts ts':Tmps} {o:AOper} {t:Todo} {h:List AObj} (hr:Agree o.reads ts ts') (ht:z8w ts o=some t):doT C base gen ts h clk t=doT C base gen ts' h clk t:=by
 cases t with
 | call f args=>rfl
 | prim op=>
   simp only[doT]
   rcases (x7n ht).1 with rfl | rfl
   ·rw[j6n hr.left]
   ·rfl
theorem q0n {Γ:AProg} {base:Nat} {ts ts':Tmps} {o:AOper} {t:Todo} {h h':List AObj} (hr:Agree o.reads ts ts') (ht:z8w ts o=some t):q3q Γ base ts h h' t=q3q Γ base ts' h h' t:=by
 cases t with
 | call f args=>rfl
 | prim op=>
   simp only[q3q]
   obtain⟨h1,h2⟩:=x7n ht
   rcases h1 with rfl | rfl
   ·exact j0f h2 hr.left
   ·rfl
section
theorem q0o {a b:List Nat} (h:z0q a b=true) {s:Nat} (ha:s∈a):s∉b:=by
 have:=y9.1 h s ha
 simpa using this
structure Apart (f g:List Nat×List Nat):Prop where
 wr:∀ s∈f.2,s∉g.1
 ww:∀ s∈f.2,s∉g.2
 rw:∀ s∈g.2,s∉f.1
theorem j6o {f g:List Nat×List Nat} (h:apart f g=true):Apart f g:=by
 simp only[apart,y4] at h
 exact⟨fun s hs=>q0o h.1.1 hs,fun s hs=>q0o h.1.2 hs,fun s hs=>q0o h.2 hs⟩
section
variable {R:Nat→ACode→St→Option (AEx×St)} {Γ:AProg} {base:Nat} {ts:Tmps}
theorem v5b {h h1 h2:List AObj} {ga gb:Nat} {a b:AOp} {va vb:AV} (ha:prim h base ga ts a=some (va,h1)) (hb:prim h1 base gb ts b=some (vb,h2)) (hp:Apart (z3e base ts a) (z3e base ts b)):
  ∃ k1,prim h base gb ts b=some (vb,k1)∧prim k1 base ga ts a=some (va,h2):=by
 have hoa:=z9d ha
 have hob:=z9d hb
 have s1:Same ((z3e base ts b).1++(z3e base ts b).2) h1 h:=fun s hs=>by
  refine hoa s fun hm=> ?_
  rcases x4.1 hs with hs | hs
  ·exact hp.wr s hm hs
  ·exact hp.ww s hm hs
 obtain⟨k1,hk1,s2⟩:=q4p s1 (fun s hs=>hs) hb
 have hok:=z9d hk1
 have s3:Same ((z3e base ts a).1++(z3e base ts a).2) h k1:=fun s hs=>by
  refine (hok s fun hm=> ?_).symm
  rcases x4.1 hs with hs | hs
  ·exact hp.rw s hm hs
  ·exact hp.ww s hs hm
 obtain⟨k2,hk2,s4⟩:=q4p s3 (fun s hs=>hs) ha
 have hoq:=z9d hk2
 refine⟨k1,hk1, ?_⟩
 rw[hk2]
 have:k2=h2:=by
  apply List.ext_getElem?
  intro x
  by_cases hx:x∈(z3e base ts a).2
  ·rw[←s4 x (p7 _ hx),hob x (hp.ww x hx)]
  ·rw[hoq x hx]
   by_cases hy:x∈(z3e base ts b).2
   ·rw[←s2 x (p7 _ hy)]
   ·rw[hok x hy,hob x hy,hoa x hx]
 rw[this]
theorem v5c {h h1 h2:List AObj} {ga c c2 f:Nat} {args:List AV} {a:AOp} {va vb:AV} (ha:prim h base ga ts a=some (va,h1)) (hb:z0k R Γ f args h1 c=some (vb,h2,c2)) (hp:Apart (z3e base ts a) (z3k (z0z Γ f args h1) h1 h2))
  (hbd:∀ s∈(z3e base ts a).1++(z3e base ts a).2,s < h.length):
  ∃ k1,z0k R Γ f args h c=some (vb,k1,c2)∧prim k1 base ga ts a=some (va,h2)∧z3k (z0z Γ f args h) h k1=z3k (z0z Γ f args h1) h1 h2:=by
 have hoa:=z9d ha
 have hla:=z5y ha
 have s1:Same (z0z Γ f args h1) h1 h:=fun s hs=>hoa s fun hm=>hp.wr s hm hs
 obtain⟨k1,hk1,al⟩:=x7m hla.symm s1 hb
 have hfe:=q4r hla.symm s1
 obtain⟨hl1,hob⟩:=q2o hb
 have hout:∀ s,s < h1.length→s∉(z3k (z0z Γ f args h1) h1 h2).2→h2[s]? =h1[s]? :=fun s hs hn=>q3p hs hl1 (hob s hs) hn
 have hold:∀ s,h1[s]? =h[s]? →h2[s]? =k1[s]? :=fun s he=>by
  by_cases hs:s < h1.length
  ·exact al.old s hs he
  ·exact (al.new s (by omega)).symm
 have hfoot:z3k (z0z Γ f args h) h k1=z3k (z0z Γ f args h1) h1 h2:=by
  rw[hfe]
  exact q6z (fun s hs=>(s1 s hs).symm) (fun s hs=>(hold s (s1 s hs)).symm)
 obtain⟨hl2,hok⟩:=q2o hk1
 rw[hfe] at hok
 have s3:Same ((z3e base ts a).1++(z3e base ts a).2) h k1:=fun s hs=>by
  have hlt:=hbd s hs
  refine (q3p hlt hl2 (hok s hlt) fun hm=> ?_).symm
  rw[←hfe,hfoot] at hm
  rcases x4.1 hs with hs | hs
  ·exact hp.rw s hm hs
  ·exact hp.ww s hs hm
 obtain⟨k2,hk2,s4⟩:=q4p s3 (fun s hs=>hs) ha
 have hoq:=z9d hk2
 refine⟨k1,hk1, ?_,hfoot⟩
 rw[hk2]
 have:k2=h2:=by
  apply List.ext_getElem?
  intro x
  by_cases hx:x∈(z3e base ts a).2
  ·have hlt:=hbd x (p7 _ hx)
   rw[←s4 x (p7 _ hx),hout x (by omega) (hp.ww x hx)]
  ·rw[hoq x hx]
   exact (hold x (hoa x hx)).symm
 rw[this]
theorem v5d {h h1 h2:List AObj} {gb c c1 f:Nat} {args:List AV} {b:AOp} {va vb:AV} (ha:z0k R Γ f args h c=some (va,h1,c1)) (hb:prim h1 base gb ts b=some (vb,h2)) (hp:Apart (z3k (z0z Γ f args h) h h1) (z3e base ts b))
  (hbd:∀ s∈(z3e base ts b).1++(z3e base ts b).2,s < h.length):
  ∃ k1,prim h base gb ts b=some (vb,k1)∧z0k R Γ f args k1 c=some (va,h2,c1)∧z3k (z0z Γ f args k1) k1 h2=z3k (z0z Γ f args h) h h1:=by
 obtain⟨hl1,hoa⟩:=q2o ha
 have hout:∀ s,s < h.length→s∉(z3k (z0z Γ f args h) h h1).2→h1[s]? =h[s]? :=fun s hs hn=>q3p hs hl1 (hoa s hs) hn
 have hob:=z9d hb
 have s1:Same ((z3e base ts b).1++(z3e base ts b).2) h1 h:=fun s hs=>by
  refine hout s (hbd s hs) fun hm=> ?_
  rcases x4.1 hs with hs | hs
  ·exact hp.wr s hm hs
  ·exact hp.ww s hm hs
 obtain⟨k1,hk1,s2⟩:=q4p s1 (fun s hs=>hs) hb
 have hok:=z9d hk1
 have hlk:=z5y hk1
 have hlb:=z5y hb
 have s3:Same (z0z Γ f args h) h k1:=fun s hs=>(hok s fun hm=>hp.rw s hm hs).symm
 obtain⟨k2,hk2,al⟩:=x7m hlk s3 ha
 have hfe:=q4r hlk s3
 obtain⟨hl2,hoq⟩:=q2o hk2
 rw[hfe] at hoq
 have hold:∀ s,h[s]? =k1[s]? →h1[s]? =k2[s]? :=fun s he=>by
  by_cases hs:s < h.length
  ·exact al.old s hs he
  ·exact (al.new s (by omega)).symm
 have:k2=h2:=by
  apply List.ext_getElem?
  intro x
  by_cases hx:x∈(z3e base ts b).2
  ·have hlt:=hbd x (p7 _ hx)
   rw[hoq x (by omega) (hp.rw x hx),←s2 x (p7 _ hx)]
  ·rw[←hold x (hok x hx).symm,hob x hx]
 subst this
 refine⟨k1,hk1,hk2, ?_⟩
 rw[hfe]
 exact q6z (fun s hs=>(s3 s hs).symm) (fun s hs=>(hold s (s3 s hs)).symm)
theorem y4s {t u:Todo} {h h1 h2:List AObj} {ga gb c c1 c2:Nat} {va vb:AV} (hnc:t.isCall=false∨u.isCall=false)
  (ha:doT (z0k R Γ) base ga ts h c t=some (va,h1,c1)) (hb:doT (z0k R Γ) base gb ts h1 c1 u=some (vb,h2,c2)) (hp:Apart (q3q Γ base ts h h1 t) (q3q Γ base ts h1 h2 u))
  (hbt:u.isCall=true→∀ s∈(q3q Γ base ts h h1 t).1++(q3q Γ base ts h h1 t).2,s < h.length) (hbu:t.isCall=true→∀ s∈(q3q Γ base ts h1 h2 u).1++(q3q Γ base ts h1 h2 u).2,s < h.length):
  ∃ k1 d1,doT (z0k R Γ) base gb ts h c u=some (vb,k1,d1)∧doT (z0k R Γ) base ga ts k1 d1 t=some (va,h2,c2)∧q3q Γ base ts h k1 u=q3q Γ base ts h1 h2 u∧q3q Γ base ts k1 h2 t=q3q Γ base ts h h1 t∧h.length≤k1.length:=by
 cases t with
 | prim a=>
   simp only[doT,x5,Prod.mk.injEq] at ha
   obtain⟨⟨va',h1'⟩,ha,rfl,rfl,rfl⟩:=ha
   cases u with
   | prim b=>
     simp only[doT,x5,Prod.mk.injEq] at hb
     obtain⟨⟨vb',h2'⟩,hb,rfl,rfl,rfl⟩:=hb
     obtain⟨k1,e1,e2⟩:=v5b ha hb hp
     exact⟨k1,c,by simp only[doT,e1,j5],by simp only[doT,e2,j5],rfl,rfl,by rw[z5y e1];exact x7 _⟩
   | call f args=>
     obtain⟨k1,e1,e2,e3⟩:=v5c ha hb hp (hbt rfl)
     exact⟨k1,c2,e1,by simp only[doT,e2,j5],e3,rfl,(q2o e1).1⟩
 | call f args=>
   cases u with
   | call _ _=>simp[Todo.isCall] at hnc
   | prim b=>
     simp only[doT,x5,Prod.mk.injEq] at hb
     obtain⟨⟨vb',h2'⟩,hb,rfl,rfl,rfl⟩:=hb
     obtain⟨k1,e1,e2,e3⟩:=v5d ha hb hp (hbu rfl)
     exact⟨k1,c,by simp only[doT,e1,j5],e2,rfl,e3,by rw[z5y e1];exact x7 _⟩
theorem x2l {ts:Tmps} {d:Option Nat} {v:AV} {l:List Nat} (h:∀ t,d=some t→t∉l):Agree l (z8g ts d v) ts:=fun t ht=>by
 cases d with
 | none=>rfl
 | some d=>
   have:t≠d:=fun e=>h d rfl (e ▸ ht)
   simp only[z8g,upd,if_neg this]
theorem j9m {ts:Tmps} {d e:Option Nat} {v u:AV} (h:∀ t,d=some t→e≠some t):z8g (z8g ts d v) e u=z8g (z8g ts e u) d v:=by
 cases d with
 | none=>rfl
 | some d=>
   cases e with
   | none=>rfl
   | some e=>
     have hne:e≠d:=fun he=>h d rfl (by rw[he])
     funext j
     simp only[z8g,upd]
     by_cases h1:j=e
     ·subst h1
      simp[hne]
     ·simp[h1]
theorem j6p {a b:AOper} (h:indep a b=true):(∀ t,a.dst=some t→t∉b.reads)∧(∀ t,a.dst=some t→b.dst≠some t)∧(∀ t,b.dst=some t→t∉a.reads):=by
 unfold indep at h
 simp only[y4] at h
 obtain⟨h1,h2⟩:=h
 refine⟨fun t ht=> ?_,fun t ht=> ?_,fun t ht=> ?_⟩
 ·rw[ht] at h1;simp at h1;exact h1.1
 ·rw[ht] at h1;simp at h1;exact h1.2
 ·rw[ht] at h2;simpa using h2
theorem j9n {a b:AOper} {s s1 s2:St} {ga gb:Nat} (ind:indep a b=true) (hnc:a.op.isCall=false∨b.op.isCall=false)
  (ha:stepA (z0k R Γ) base ga a s=some s1) (hb:stepA (z0k R Γ) base gb b s1=some s2) (hp:Apart (footOfK Γ base a s s1) (footOfK Γ base b s1 s2))
  (hbt:b.op.isCall=true→∀ x∈(footOfK Γ base a s s1).1++(footOfK Γ base a s s1).2,x < s.h.length) (hbu:a.op.isCall=true→∀ x∈(footOfK Γ base b s1 s2).1++(footOfK Γ base b s1 s2).2,x < s.h.length):
  ∃ k,stepA (z0k R Γ) base gb b s=some k∧stepA (z0k R Γ) base ga a k=some s2∧footOfK Γ base b s k=footOfK Γ base b s1 s2∧footOfK Γ base a k s2=footOfK Γ base a s s1∧s.h.length≤k.h.length:=by
 obtain⟨i1,i2,i3⟩:=j6p ind
 obtain⟨t,va,h1,c1,ht,hda,rfl,hfa⟩:=z9v ha
 obtain⟨u,vb,h2,c2,hu,hdb,rfl,hfb⟩:=z9v hb
 simp only at hu hdb hfb hp hbt hbu hb
 have hA:Agree b.reads (z8g s.ts a.dst va) s.ts:=x2l i1
 have hu':z8w s.ts b=some u:=by rw[←x2k hA];exact hu
 have hdb':doT (z0k R Γ) base gb s.ts h1 c1 u=some (vb,h2,c2):=by rw[←x7p hA hu];exact hdb
 rw[hfa,hfb,q0n hA hu] at hp
 rw[hfa] at hbt
 rw[hfb,q0n hA hu] at hbu
 obtain⟨k1,d1,e1,e2,e3,e4,e5⟩:=y4s (hnc.imp (z9e ht) (z9e hu)) hda hdb' hp (fun hc=>hbt (by
  cases hx:b.op.isCall with
  | true=>rfl
  | false=>rw[z9e hu hx] at hc;simp at hc)) (fun hc=>hbu (by
  cases hx:a.op.isCall with
  | true=>rfl
  | false=>rw[z9e ht hx] at hc;simp at hc))
 have hB:Agree a.reads (z8g s.ts b.dst vb) s.ts:=x2l i3
 have st1:=j2z (s:=s) hu' e1
 have ht':z8w (z8g s.ts b.dst vb) a=some t:=by rw[x2k hB];exact ht
 have st2:=j2z (C:=z0k R Γ) (base:=base) (gen:=ga) (s:=⟨z8g s.ts b.dst vb,k1,d1⟩) ht' (by rw[←x7p hB ht'] at e2;exact e2)
 have hc:z8g (z8g s.ts b.dst vb) a.dst va=z8g (z8g s.ts a.dst va) b.dst vb:=j9m fun t ht he=>i2 t he ht
 simp only at st2
 rw[hc] at st2
 refine⟨_,st1,st2, ?_, ?_,e5⟩
 ·obtain⟨u2,_,q1,_,hu2,_,he,hf2⟩:=z9v st1
  obtain rfl:k1=q1:=congrArg St.h he
  rw[hu'] at hu2
  simp only[Option.some.injEq] at hu2
  subst hu2
  rw[hf2,hfb,q0n hA hu]
  exact e3
 ·obtain⟨t2,_,q1,_,ht2,_,he,hf2⟩:=z9v st2
  obtain rfl:h2=q1:=congrArg St.h he
  simp only at ht2
  rw[ht'] at ht2
  simp only[Option.some.injEq] at ht2
  subst ht2
  rw[hf2,hfa]
  simp only
  rw[q0n hB ht']
  exact e4
end
end
section
def q7s (acc:Array Nat) (s:Nat) (e:Edge):Nat:=if Region.binds .any e then s ||| 2 ^ e.on ||| acc.getD e.on 0 else s
theorem x7q {acc:Array Nat} {i:Nat}:∀ {es:List Edge} {s:Nat},(es.foldl (q7s acc) s).testBit i=true→s.testBit i=true∨∃ e∈es,Region.binds .any e=true∧(e.on=i∨(acc.getD e.on 0).testBit i=true)
 | [],s,h=> .inl h
 | e::es,s,h=>by
   rw[List.foldl_cons] at h
   rcases x7q h with h | ⟨e',he',h'⟩
   ·unfold q7s at h
    split at h
    ·rename_i hb
     simp only[Nat.testBit_or,Bool.or_eq_true,Nat.testBit_two_pow,decide_eq_true_eq] at h
     rcases h with (h | h) | h
     ·exact .inl h
     ·exact .inr ⟨e,j7,hb, .inl h⟩
     ·exact .inr ⟨e,j7,hb, .inr h⟩
    ·exact .inl h
   ·exact .inr ⟨e',v7 _ he',h'⟩
def z4g (acc:Array Nat) (o:Oper):Array Nat:=acc.push (o.after.toList.foldl (q7s acc) 0)
theorem j9o (ops:Array Oper):Region.before ops=ops.toList.foldl z4g #[]:=by
 unfold Region.before
 rw[←Array.foldl_toList]
 congr 1
 funext acc o
 unfold z4g
 rw[←Array.foldl_toList]
 rfl
theorem x7r {acc:Array Nat} {x i b:Nat} (h:(acc.getD i 0).testBit b=true):(acc.push x).getD i 0=acc.getD i 0:=by
 have hi:i < acc.size:=by
  apply Nat.lt_of_not_le
  intro hn
  rw[Array.getD_eq_getD_getElem?,Array.getElem?_eq_none hn] at h
  simp at h
 rw[Array.getD_eq_getD_getElem?,Array.getD_eq_getD_getElem?,Array.getElem?_push_lt hi,Array.getElem?_eq_getElem hi]
theorem v5e {α:Type} {p:List α→Prop} (h0:p []) (h1:∀ l a,p l→p (l++[a])) (l:List α):p l:=by
 have:∀ m:List α,p m.reverse:=fun m=>by
  induction m with
  | nil=>exact h0
  | cons a m ih=>rw[List.reverse_cons];exact h1 _ _ ih
 have h2:=this l.reverse
 rwa [List.reverse_reverse] at h2
theorem j9p (l:List Oper):(l.foldl z4g #[]).size=l.length∧∀ j i,((l.foldl z4g #[]).getD j 0).testBit i=true→∃ o,l[j]? =some o∧∃ e∈o.after.toList,Region.binds .any e=true∧(e.on=i∨((l.foldl z4g #[]).getD e.on 0).testBit i=true):=by
 induction l using v5e with
 | h0=>exact⟨rfl,fun j i h=>by simp at h⟩
 | h1 l o ih=>
   obtain⟨h1,h2⟩:=ih
   rw[List.foldl_append,List.foldl_cons,List.foldl_nil]
   generalize l.foldl z4g #[]=B at *
   refine⟨by simp[z4g,h1],fun j i h=> ?_⟩
   by_cases hj:j < l.length
   ·have hg:(z4g B o).getD j 0=B.getD j 0:=by
     unfold z4g
     rw[Array.getD_eq_getD_getElem?,Array.getD_eq_getD_getElem?,Array.getElem?_push_lt (by omega),Array.getElem?_eq_getElem (by omega)]
    rw[hg] at h
    obtain⟨o',ho',e,he,hb,h3⟩:=h2 j i h
    refine⟨o',by rw[g9 hj];exact ho',e,he,hb,h3.imp id fun h3=> ?_⟩
    unfold z4g
    rw[x7r h3]
    exact h3
   ·by_cases hj2:j=l.length
    ·subst hj2
     have hg:(z4g B o).getD l.length 0=o.after.toList.foldl (q7s B) 0:=by
      unfold z4g
      rw[Array.getD_eq_getD_getElem?,←h1,Array.getElem?_push_size]
      rfl
     rw[hg] at h
     rcases x7q h with h | ⟨e,he,hb,h3⟩
     ·simp at h
     ·refine⟨o,by simp,e,he,hb,h3.imp id fun h3=> ?_⟩
      unfold z4g
      rw[x7r h3]
      exact h3
    ·rw[Array.getD_eq_getD_getElem?,Array.getElem?_eq_none (by simp[z4g];omega)] at h
     simp at h
theorem j0g {ops:Array Oper} {j i:Nat} (h:((Region.before ops).toList.getD j 0).testBit i=true):
  ∃ o,ops[j]? =some o∧∃ e∈o.after.toList,Region.binds .any e=true∧(e.on=i∨((Region.before ops).toList.getD e.on 0).testBit i=true):=by
 have conv:∀ k,(Region.before ops).toList.getD k 0=(ops.toList.foldl z4g #[]).getD k 0:=fun k=>by
  rw[j9o]
  simp[List.getD,Array.getD_eq_getD_getElem?]
 rw[conv] at h
 obtain⟨o,ho,e,he,hb,h3⟩:=(j9p ops.toList).2 j i h
 exact⟨o,by simpa using ho,e,he,hb,h3.imp id fun h3=>by rw[conv];exact h3⟩
theorem q7a:∀ {os:List Oper} {j0:Nat},q5t j0 os=true→∀ (j:Nat) o,os[j]? =some o→∀ e∈o.after.toList,Region.binds .any e=true→e.on < j0 + j
 | [],_,_,j,o,ho=>by simp at ho
 | x::os,j0,h,j,o,ho=>by
   simp only[q5t,y4] at h
   cases j with
   | zero=>
     simp at ho
     subst ho
     intro e he hb
     have:=y9.1 h.1 e he
     rw[hb] at this
     simpa using this
   | succ j=>
     intro e he hb
     have:=q7a h.2 j o (by simpa using ho) e he hb
     omega
theorem q9c {bj j cj:Nat}:∀ {os:List AOper} {i0 p:Nat} {o:AOper},os[p]? =some o→i0 + p < j→bj.testBit (i0 + p)=false→z3l o.op≠0→cj≠0→(z3l o.op=2∨cj=2)→(i0 + p,j)∈q8d bj j cj i0 os
 | [],_,p,o,h,_,_,_,_,_=>by simp at h
 | x::os,i0,p,o,h,h1,h2,h3,h4,h5=>by
   simp only[q8d,x4]
   cases p with
   | zero=>
     simp at h
     subst h
     left
     rw[b4] at h1 h2
     rw[if_pos ⟨h1,by rw[h2];rfl,by omega,h3,h4,h5⟩]
     simp
   | succ p=>
     right
     have:=q9c (bj:=bj) (j:=j) (cj:=cj) (os:=os) (i0:=i0 + 1) (p:=p) (o:=o) (by simpa using h) (by omega) (by rw[show i0 + 1 + p=i0 + (p + 1) by omega];exact h2) h3 h4 h5
     rw[show i0 + 1 + p=i0 + (p + 1) by omega] at this
     exact this
theorem q9d {bs:List Nat} {all:List AOper} {x:Nat×Nat}:∀ {os:List AOper} {j0 q:Nat} {o:AOper},os[q]? =some o→x∈q8d (bs.getD (j0 + q) 0) (j0 + q) (z3l o.op) 0 all→x∈q1g bs all j0 os
 | [],_,q,o,h,_=>by simp at h
 | y::os,j0,q,o,h,hx=>by
   simp only[q1g,x4]
   cases q with
   | zero=>
     simp at h
     subst h
     exact .inl hx
   | succ q=>
     right
     refine q9d (q:=q) (o:=o) (by simpa using h) ?_
     rw[show j0 + 1 + q=j0 + (q + 1) by omega]
     exact hx
theorem q7b {bj j:Nat} {o:AOper}:∀ {os:List AOper} {i0 p:Nat} {x:AOper},q8e bj j o i0 os=true→os[p]? =some x→i0 + p < j→bj.testBit (i0 + p)=false→indep x o=true
 | [],_,p,x,_,h,_,_=>by simp at h
 | y::os,i0,p,x,hi,h,h1,h2=>by
   simp only[q8e,y4] at hi
   cases p with
   | zero=>
     simp at h
     subst h
     have:=hi.1
     simp only[b4] at h1 h2
     simp[h1,h2] at this
     exact this
   | succ p=>exact q7b hi.2 (p:=p) (by simpa using h) (by omega) (by rw[show i0 + 1 + p=i0 + (p + 1) by omega];exact h2)
theorem q7c {bs:List Nat} {all:List AOper}:∀ {os:List AOper} {j0 q:Nat} {o:AOper},q8f bs all j0 os=true→os[q]? =some o→q8e (bs.getD (j0 + q) 0) (j0 + q) o 0 all=true
 | [],_,q,o,_,h=>by simp at h
 | y::os,j0,q,o,hi,h=>by
   simp only[q8f,y4] at hi
   cases q with
   | zero=>
     simp at h
     subst h
     exact hi.1
   | succ q=>
     have:=q7c hi.2 (q:=q) (by simpa using h)
     rw[show j0 + 1 + q=j0 + (q + 1) by omega] at this
     exact this
theorem q4s {Γ:AProg} {base:Nat} {o:AOper} {s s':St} (h:z3l o.op=0):footOfK Γ base o s s'=([],[]):=by
 unfold footOfK
 split
 ·obtain⟨d,op,g⟩:=o
  cases op <;> simp[z3l] at h <;> rfl
 ·rfl
theorem q4t {Γ:AProg} {base:Nat} {o:AOper} {s s':St} (h:z3l o.op=1):(footOfK Γ base o s s').2=[]:=by
 unfold footOfK
 split
 ·obtain⟨d,op,g⟩:=o
  cases op <;> simp[z3l] at h <;> rfl
 ·rfl
theorem z5a {op:AOp} (h:op.isCall=true):z3l op=2:=by
 cases op <;> simp[AOp.isCall] at h <;> rfl
theorem x2m (op:AOp):z3l op=0∨z3l op=1∨z3l op=2:=by
 cases op <;> simp[z3l]
section
variable {R:Nat→ACode→St→Option (AEx×St)} {Γ:AProg} {base clk0:Nat} {asx:List AOper} {fs:Nat→List Nat×List Nat}
inductive Runs (C:Caller) (Γ:AProg) (base clk0:Nat) (asx:List AOper) (fs:Nat→List Nat×List Nat):List Nat→St→St→Prop
 | nil (s:St):Runs C Γ base clk0 asx fs [] s s
 | cons {i:Nat} {o:AOper} {is:List Nat} {s s1 s2:St}:asx[i]? =some o→stepA C base (clk0 + i) o s=some s1→footOfK Γ base o s s1=fs i→Runs C Γ base clk0 asx fs is s1 s2→Runs C Γ base clk0 asx fs (i::is) s s2
structure PairOk (asx:List AOper) (fs:Nat→List Nat×List Nat) (N i j:Nat):Prop where
 ind:∀ a b,asx[i]? =some a→asx[j]? =some b→indep a b=true
 calls:∀ a b,asx[i]? =some a→asx[j]? =some b→a.op.isCall=false∨b.op.isCall=false
 apart:Apart (fs i) (fs j)
 left:∀ b,asx[j]? =some b→b.op.isCall=true→∀ x∈(fs i).1++(fs i).2,x < N
 right:∀ a,asx[i]? =some a→a.op.isCall=true→∀ x∈(fs j).1++(fs j).2,x < N
theorem x7s {gen:Nat} {o:AOper} {s s':St} (h:stepA (z0k R Γ) base gen o s=some s'):s.h.length≤s'.h.length:=by
 obtain⟨t,v,h1,c,_,hd,rfl,_⟩:=z9v h
 cases t with
 | prim op=>
   simp only[doT,x5,Prod.mk.injEq] at hd
   obtain⟨⟨v',h'⟩,hd,rfl,rfl,rfl⟩:=hd
   rw[z5y hd]
   exact x7 _
 | call f args=>exact (q2o hd).1
theorem Runs.bubble {N j:Nat} {l2:List Nat} {s':St}:∀ {l1:List Nat} {s:St},Runs (z0k R Γ) Γ base clk0 asx fs (l1++j::l2) s s'→(∀ i∈l1,PairOk asx fs N i j)→N≤s.h.length→Runs (z0k R Γ) Γ base clk0 asx fs (j::(l1++l2)) s s'
 | [],s,h,_,_=>h
 | i::l1,s,h,hp,hN=>by
   cases h with
   | cons ha hst hf hr=>
     rename_i a s1
     have hlen:=x7s hst
     have:=Runs.bubble hr (fun k hk=>hp k (v7 _ hk)) (by omega)
     cases this with
     | cons hb hst2 hf2 hr2=>
       rename_i b s2
       have hpk:=hp i j7
       obtain⟨k,e1,e2,e3,e4,e5⟩:=j9n (hpk.ind a b ha hb) (hpk.calls a b ha hb) hst hst2 (by rw[hf,hf2];exact hpk.apart)
        (fun hc x hx=>Nat.lt_of_lt_of_le (hpk.left b hb hc x (by rw[←hf];exact hx)) hN) (fun hc x hx=>Nat.lt_of_lt_of_le (hpk.right a ha hc x (by rw[←hf2];exact hx)) hN)
       exact .cons hb e1 (by rw[e3,hf2]) (.cons ha e2 (by rw[e4,hf]) hr2)
theorem Runs.foot {C:Caller}:∀ {l:List Nat} {s s':St},Runs C Γ base clk0 asx fs l s s'→∀ i∈l,∃ o s1 s2,asx[i]? =some o∧fs i=footOfK Γ base o s1 s2
 | [],_,_,_,i,hi=>by simp at hi
 | k::l,s,s',h,i,hi=>by
   cases h with
   | cons ha hst hf hr=>
     rename_i o s1
     rcases j6.1 hi with rfl | hi
     ·exact⟨o,s,s1,ha,hf.symm⟩
     ·exact Runs.foot hr i hi
theorem q3c {C:Caller}:∀ {os:List AOper} {g:Nat} {s s':St},z8h C base g os s=some s'→∃ l,z3a C Γ base g os s=some (s',l)
 | [],g,s,s',h=>by
   simp only[z8h,Option.some.injEq] at h
   subst h
   exact⟨[],rfl⟩
 | o::os,g,s,s',h=>by
   simp only[z8h] at h
   split at h
   ·rename_i s1 hs
    obtain⟨l,hl⟩:=q3c h
    exact⟨_,by simp only[z3a,hs,hl,j5];rfl⟩
   ·simp at h
theorem q1k {C:Caller}:∀ {os:List AOper} {j:Nat} {s s':St} {l:List (List Nat×List Nat)},os=asx.drop j→z3a C Γ base (clk0 + j) os s=some (s',l)→(∀ (i:Nat) f,l[i]? =some f→fs (j + i)=f)→
  Runs C Γ base clk0 asx fs (List.range' j os.length) s s'∧l.length=os.length
 | [],j,s,s',l,ho,h,hf=>by
   simp only[z3a,Option.some.injEq,Prod.mk.injEq] at h
   obtain⟨rfl,rfl⟩:=h
   exact⟨.nil _,rfl⟩
 | o::os,j,s,s',l,ho,h,hf=>by
   simp only[z3a] at h
   split at h
   ·rename_i s1 hs
    simp only[x5,Prod.mk.injEq] at h
    obtain⟨⟨s2,l'⟩,hr,rfl,rfl⟩:=h
    have hao:asx[j]? =some o:=by
     have:(asx.drop j)[0]? =some o:=by rw[←ho];rfl
     simpa using this
    have hd:os=asx.drop (j + 1):=by
     have:(o::os).tail=(asx.drop j).tail:=by rw[ho]
     simpa [List.tail_drop] using this
    obtain⟨h1,h2⟩:=q1k (j:=j + 1) hd (by rw[←Nat.add_assoc];exact hr) (fun i f hi=>by
     have:=hf (i + 1) f (by simpa using hi)
     rw[←this];congr 1;omega)
    refine⟨?_,by simp[h2]⟩
    rw[List.length_cons,List.range'_succ]
    refine .cons hao hs ?_ h1
    have:=hf 0 _ rfl
    rw[b4] at this
    rw[this]
    rfl
   ·simp at h
end
end
end Go.Proofs.YtkollgjffkdliaaGreatDoor.Am
