/- The abstract machine's calls stand for the model's: joined What an operation of the abstract machine touches What an operation of the abstract machine touches: all operations that are no calls What an -/
import Derived.Test.YtkollgjffkdliaaGreatDoorM07
set_option linter.all false
namespace Go.Proofs.YtkollgjffkdliaaGreatDoor.Am
open Go
set_option maxRecDepth 100000
section
variable {P:Program} {G:Ghost} {I:Imm} {h:List AObj} {w:World}
mutual
theorem j5b:∀ {v:AV},v.flat=true→v.ids=[]
 | .undef,_=>rfl
 | .int ..,_=>rfl
 | .bool _,_=>rfl
 | .str _,_=>rfl
 | .agg cs,hf=>by
   simp only[AV.ids]
   exact x0c (by simpa only[AV.flat] using hf)
 | .tup cs,hf=>by
   simp only[AV.ids]
   exact x0c (by simpa only[AV.flat] using hf)
 | .sl _ _,hf=>by simp[AV.flat] at hf
 | .ob ..,hf=>by simp[AV.flat] at hf
 | .ptr ..,hf=>by simp[AV.flat] at hf
 | .iptr _ _,hf=>by simp[AV.flat] at hf
 | .nilptr,hf=>by simp[AV.flat] at hf
 | .mp ..,hf=>by simp[AV.flat] at hf
 | .nilmap,hf=>by simp[AV.flat] at hf
 | .fn _ _,hf=>by simp[AV.flat] at hf
 | .nilfn,hf=>by simp[AV.flat] at hf
 | .nilif,hf=>by simp[AV.flat] at hf
 | .bwd _ _,hf=>by simp[AV.flat] at hf
theorem x0c:∀ {vs:List AV},j1l vs=true→idsL vs=[]
 | [],_=>rfl
 | v::vs,hf=>by
   simp only[j1l,Bool.and_eq_true] at hf
   simp only[idsL,j5b hf.1,x0c hf.2,List.append_nil]
end
theorem q5l:∀ {h h':List AObj} {k:Nat},z0t [] k h h'=h
 | [],[],_=>rfl
 | [],_::_,_=>rfl
 | o::h,[],_=>rfl
 | o::h,o'::h',k=>by simp[z0t,q5l]
theorem k8n {base clk:Nat} {I1:Imm} {h1:List AObj} (rel1:Rel G I1 h1 w) (hI:ILe I I1) (hN:NoNew G h I I1) (ho:∀ (i:Nat) o b,h1[i]? =some o→own G o=some b→∃ (j:Nat) (x:AObj),h[j]? =some x∧own G x=some b):Ran base clk G I h w G I1 h1 w:=
 ⟨rel1,GLe.refl _,hI,fun g i h1 h2=>by rw[h1] at h2;simp at h2,fun i o b hi hb=> .inl (ho i o b hi hb),Fr.refl _ _ _,hN.ifr⟩
theorem k1v {Γ:AProg} {back:Nat→Option Nat} {k:Nat} (hE:x3o P back (z4a Γ k)) (hΓ:ProgOk P back Γ):q5j P (z0o (z4a Γ k) Γ):=by
 intro f args h clk v h' clk' hc G I w cargs hargs rel hfresh
 unfold z0o at hc
 split at hc
 ·rename_i sem hsem
  split at hc
  ·rename_i asx hpass
   split at hc
   ·rename_i hlent
    simp only[Option.map_eq_some_iff,Prod.mk.injEq] at hc
    obtain⟨v0,hv0,rfl,rfl,rfl⟩:=hc
    obtain⟨I1,hI1,rel1,hvs,hN⟩:=q1m hpass hargs (Frozen.refl h) rel
    have hl:z0u [] 0 args=[]:=by simpa using hlent
    rw[hl] at rel1
    simp only[freezeAll] at rel1
    intro o a next Q hn
    refine hΓ.ext f sem hsem asx v0 hv0 G I1 w cargs hvs rel1.imm ⟨clk,hfresh⟩ o a next Q fun cv w' hp=>hn cv w' ?_
    obtain⟨I',hv,hran⟩:=hp.ran (base:=h.length) (clk:=clk) rel1
    exact⟨G,I',hv,(k8n rel1 hI1 hN fun i o b hi hb=>⟨i,o,hi,hb⟩).trans hran (Nat.le_refl _) (Nat.le_refl _),hfresh,Nat.le_refl _,Nat.le_refl _⟩
   ·simp at hc
  ·simp at hc
 ·split at hc
  ·simp at hc
  ·rename_i af haf
   split at hc
   ·simp at hc
   ·rename_i asx hpass
    obtain⟨hint,hcf⟩:=hΓ.fn f af haf
    unfold cFun at hcf
    split at hcf
    ·rename_i fn hfn
     split at hcf
     ·rename_i c hbody
      split at hcf
      ·rename_i c' n' rs hcode hres
       split at hcf
       ·simp at hcf
       ·rename_i hname
        simp only[Option.some.injEq] at hcf
        subst hcf
        simp only at hc
        obtain⟨I1,hI1,rel1,hvs,hN⟩:=q1m hpass hargs (Frozen.refl h) rel
        have hfrz:=z2e h (z0u hint.byref 0 args)
        generalize freezeAll h (z0u hint.byref 0 args)=hf at *
        generalize reach h (h.length + 1) [] (idsL asx)=T at *
        split at hc
        ·simp at hc
        ·simp at hc
        ·rename_i e s hnoexit hx
         split at hc
         ·simp at hc
         ·rename_i vs hvres
          split at hc
          ·simp at hc
          ·rename_i v0 hconv
           intro o a next Q hn
           rw[z6h hfn hbody hname,Oper.upon_enter]
           refine Calls.mono (R:=fun e w'=>∃ cv,e= .returned cv∧q8y G I h w clk v h' clk' cv w') ?_ (fun e w' he=>by
             obtain⟨cv,rfl,hp⟩:=he
             exact hn cv w' hp)
           refine j2d (r:=none) (n:=0) (callsIn_of_wp_marks hfn hbody trivial ?_ rfl)
           have hlive:Live fn.ntmps w.heap.size G I1 ⟨q0m asx,maskFrom T 0 hf++List.replicate n' .dead,clk⟩ {tmps:=cargs++Array.replicate (fn.ntmps - cargs.size) undef,defers:=[]} w:=
             ⟨Nat.le_refl _,⟨fun d hd=>by simp at hd, .nil⟩,by simp;omega,k8l hvs,k8h rel1⟩
           refine hE none fn.ntmps w.heap.size _ _ h.length 0 c c' n' ⟨q0m asx,maskFrom T 0 hf++List.replicate n' .dead,clk⟩ e s hcode (.inl rfl) hx (by simp[z9b,hfrz.1]) G I1 w _ 0 _ hlive hfresh fun a' w1 G' I' k1 k2 g3 g4 g5=> ?_
           have hfin:∀ w',Shut w.heap.size w1 w'→∃ cv,(results fn a'.tmps).run P w'= .ok cv w'∧∃ cv',Ending.returned cv=Ending.returned cv'∧q8y G I h w clk v h' clk' cv' w':=by
            intro w' hshut
            have g2:=hshut.ran k2
            obtain⟨cv,hrun,hcv⟩:=j8t (P:=P) k1.tmps g2.rel hres hvres
            have hpost:q8y G I h w clk v h' clk' cv w':=by
              have hlen:h.length≤s.h.length:=by
               have:(maskFrom T 0 hf++List.replicate n' AObj.dead).length≤s.h.length:=g5
               simp only[List.length_append,z9b,hfrz.1] at this
               omega
              obtain⟨I2,hI2,rel2,hv2,hN2,hfrz2⟩:∃ I2,ILe I' I2∧Rel G' I2 (if hint.owned=true then s.h else freezeAll s.h (z1l vs).obs) w'∧VR G' I2 v0 cv∧NoNew G' s.h I' I2∧Frozen s.h (if hint.owned=true then s.h else freezeAll s.h (z1l vs).obs):=by
               by_cases ho:hint.owned=true
               ·rw[if_pos ho] at hconv⊢
                simp only[Option.some.injEq] at hconv
                subst hconv
                exact⟨I',ILe.refl _,g2.rel,hcv,NoNew.refl,Frozen.refl _⟩
               ·rw[if_neg ho] at hconv⊢
                obtain⟨I2,a1,a2,a3,a4⟩:=q9n hconv hcv (Frozen.refl _) g2.rel
                exact⟨I2,a1,a2,a3,a4,z2e _ _⟩
              generalize (if hint.owned=true then s.h else freezeAll s.h (z1l vs).obs)=hr at *
              have left:Left T n' clk G I h w I1 hf G' I' s.h I2 hr w':=⟨hfrz,rel1,hI1,hN,g2,hlen,hfrz2,rel2,hI2,hN2⟩
              have hclk:clk≤s.clk:=g4
              by_cases hflat:(v0.flat && T.isEmpty)=true
              ·rw[if_pos hflat] at hc
               simp only[Bool.and_eq_true,List.isEmpty_iff] at hflat
               obtain⟨hfl,rfl⟩:=hflat
               rw[q5l,j5b hfl] at hc
               simp only[List.map_nil,List.flatten_nil,List.append_nil,List.all_nil,if_true,Option.some.injEq,Prod.mk.injEq] at hc
               obtain⟨rfl,rfl,rfl⟩:=hc
               have hkeep:∀ b,b < w.heap.size→w'.heap[b]? =w.heap[b]? :=fun b hb=>left.ran.fr.kept b hb fun i o hi ho=>by
                have:=(left.maskOwner hi ho).1
                simp at this
               refine⟨G,I,VR.flat hfl hv2,⟨rel.world fun b x hx=> ?_,GLe.refl _,ILe.refl _,fun g i h1 h2=>by rw[h1] at h2;simp at h2,OwnLe.refl _ _ _,⟨left.fr.os,left.fr.tape,left.fr.output,left.fr.size,fun b hb _=>hkeep b hb⟩,IFr.refl⟩,hfresh,Nat.le_refl _,Nat.le_refl _⟩
               rw[hkeep b (Array.getElem?_eq_some_iff.1 hx).1]
               exact hx
              ·rw[if_neg hflat] at hc
               have hml:(z0t T 0 hf hr).length=h.length:=by
                rw[z6m (by rw[left.lenf];exact left.lenr),left.lenf]
               split at hc
               ·rename_i hall
                simp only[Option.some.injEq,Prod.mk.injEq] at hc
                obtain⟨rfl,rfl,rfl⟩:=hc
                obtain⟨G2,b1,b2,b3⟩:=left.cut hfresh hv2 (fun q hq=>by simpa using List.all_eq_true.1 hall q hq)
                exact⟨G2,I2,b1,b2,b3,Nat.le_refl _,by rw[hml];exact Nat.le_refl _⟩
               ·simp only[Option.some.injEq,Prod.mk.injEq] at hc
                obtain⟨rfl,rfl,rfl⟩:=hc
                exact⟨G',I2,hv2,left.all,g3,hclk,by simp[hml]⟩
            exact⟨cv,hrun,cv,rfl,hpost⟩
           cases e with
           | norm=>exact q4p k1.dfr hfin
           | ret=>exact q4p k1.dfr hfin
           | exit id=>exact (hnoexit id rfl).elim
      ·simp at hcf
     ·simp at hcf
    ·simp at hcf
theorem y9m {Γ:AProg} {back:Nat→Option Nat} (hΓ:ProgOk P back Γ) (hB:q2d P back) (hD:x9a P back) (hR:q1n P Γ) (k:Nat):x3o P back (z4a Γ k):=by
 induction k using Nat.strongRecOn with
 | ind k ih=>exact v8y ih (fun j hj=>k1v (ih j hj) hΓ) hB hD hR
theorem q6s {Γ:AProg} {back:Nat→Option Nat} (hΓ:ProgOk P back Γ) (hB:q2d P back) (hD:x9a P back) (hR:q1n P Γ) (k:Nat):q5j P (z5g Γ k):=k1v (y9m hΓ hB hD hR k) hΓ
end
def Same (S:List Nat) (h k:List AObj):Prop:=∀ s∈S,h[s]? =k[s]?
theorem Same.set {S:List Nat} {h k:List AObj} (hs:Same S h k) (i:Nat) (o:AObj):Same S (h.set i o) (k.set i o):=fun s hm=>by
 have:=hs s hm
 simp only[List.getElem?_set]
 by_cases hi:i=s
 ·subst hi
  have hh:i < h.length↔i < k.length:=by
   constructor
   ·intro hl
    rw[List.getElem?_eq_getElem hl] at this
    exact (List.getElem?_eq_some_iff.1 this.symm).1
   ·intro hl
    rw[List.getElem?_eq_getElem hl] at this
    exact (List.getElem?_eq_some_iff.1 this).1
  simp[hh]
 ·simp[hi,this]
theorem z8u {h k:List AObj} {s g:Nat} (hs:h[s]? =k[s]?):z2g h s g=z2g k s g:=by unfold z2g;rw[hs]
theorem q6t {h k:List AObj} {s g:Nat} (hs:h[s]? =k[s]?):z5q h s g=z5q k s g:=by unfold z5q;rw[hs]
theorem x3p {h k:List AObj} {s g o l:Nat} (hs:h[s]? =k[s]?):q8p h s g o l=q8p k s g o l:=by unfold q8p;rw[z8u hs]
theorem Same.freeze1 {S:List Nat} {h k:List AObj} (hs:Same S h k) (i n:Nat):Same S (freeze1 h i n) (freeze1 k i n):=fun s hm=>by
 have he:=hs s hm
 have get:∀ h:List AObj,(Am.freeze1 h i n)[s]? =if i=s then (match h[s]? with | some (.blk g es row grow fz)=>some (.blk g es row grow (max fz n)) | o=>o) else h[s]? :=fun h=>by
  unfold Am.freeze1
  by_cases hi:i=s
  ·subst hi
   rw[if_pos rfl]
   cases hc:h[i]? with
   | none=>simp[hc]
   | some o=>
     have hlt:=(List.getElem?_eq_some_iff.1 hc).1
     have hv:=(List.getElem?_eq_some_iff.1 hc).2
     cases o <;> simp[hlt,hv]
  ·rw[if_neg hi]
   split
   ·rw[List.getElem?_set_ne hi]
   ·rfl
 rw[get,get,he]
theorem Same.freezeAll {S:List Nat}:∀ {h k:List AObj} (_:Same S h k) (l:List (Nat×Nat)),Same S (Am.freezeAll h l) (Am.freezeAll k l)
 | _,_,hs,[]=>hs
 | h,k,hs,x::l=>by
   rw[show x::l=[x]++l from rfl,z3y,z3y,z6z,z6z]
   exact Same.freezeAll (hs.freeze1 x.1 x.2) l
mutual
theorem x0d {h k:List AObj}:∀ {v:AV},Same (v.obs.map (·.1)) h k→conv h v=conv k v
 | .agg cs,hs=>by
   simp only[conv]
   rw[q3n (by simpa only[AV.obs] using hs)]
 | .tup cs,hs=>by
   simp only[conv]
   rw[q3n (by simpa only[AV.obs] using hs)]
 | .ob s g o l,hs=>by
   simp only[conv]
   rw[x3p (hs s (by simp[AV.obs]))]
 | .sl _ _,_=>rfl
 | .undef,_=>rfl
 | .int ..,_=>rfl
 | .bool _,_=>rfl
 | .str _,_=>rfl
 | .ptr ..,_=>rfl
 | .iptr _ _,_=>rfl
 | .nilptr,_=>rfl
 | .mp ..,_=>rfl
 | .nilmap,_=>rfl
 | .fn _ _,_=>rfl
 | .nilfn,_=>rfl
 | .nilif,_=>rfl
 | .bwd _ _,_=>rfl
theorem q3n {h k:List AObj}:∀ {vs:List AV},Same ((z4r vs).map (·.1)) h k→q0j h vs=q0j k vs
 | [],_=>rfl
 | v::vs,hs=>by
   simp only[q0j]
   rw[x0d (v:=v) (fun s hm=>hs s (by simp only[z4r,List.map_append,List.mem_append];exact .inl hm)),q3n (vs:=vs) (fun s hm=>hs s (by simp only[z4r,List.map_append,List.mem_append];exact .inr hm))]
end
theorem j5c {S:List Nat} {h k h1:List AObj} {v v':AV} (hs:Same S h k) (ho:∀ s∈v.obs.map (·.1),s∈S) (hp:pub h v=some (v',h1)):∃ k1,pub k v=some (v',k1)∧Same S h1 k1:=by
 simp only[pub,Option.map_eq_some_iff,Prod.mk.injEq] at hp
 obtain⟨v1,hc,rfl,rfl⟩:=hp
 refine⟨_, ?_,hs.freezeAll v.obs⟩
 rw[x0d (fun s hm=>hs s (ho s hm))] at hc
 simp[pub,hc]
theorem k1w {h h1:List AObj} {v v':AV} (hp:pub h v=some (v',h1)) (s:Nat) (hn:s∉v.obs.map (·.1)):h1[s]? =h[s]? :=by
 simp only[pub,Option.map_eq_some_iff,Prod.mk.injEq] at hp
 obtain⟨v1,hc,rfl,rfl⟩:=hp
 exact z5u _ _ hn
theorem x3q {h k:List AObj} {v:AV} (hs:Same v.ids h k):z5s h v=z5s k v:=by
 cases v <;> simp only[z5s]
 rename_i s g o l
 exact x3p (hs s (by simp[AV.ids]))
theorem j2e {h k:List AObj} {t:LenTy} {v:AV} (hs:Same v.ids h k):q0l h t v=q0l k t v:=by
 cases t <;> cases v <;> simp only[q0l]
 rename_i s g
 rw[q6t (hs s (by simp[AV.ids]))]
theorem x5r {h k:List AObj} {e:Option Nat} {v:AV} {lo hi mx:Option AV} (hs:Same v.ids h k):z2w h e v lo hi mx=z2w k e v lo hi mx:=by
 cases e <;> cases v <;> simp only[z2w]
 rename_i s g o l
 rw[z8u (hs s (by simp[AV.ids]))]
theorem j8u {h k:List AObj} {v:AV} (hs:Same v.ids h k):x8e h v=x8e k v:=by
 cases v <;> simp only[x8e]
 rename_i s g
 exact q6t (hs s (by simp[AV.ids]))
def z3l (base:Nat) (ts:Tmps) (a:AOp):List Nat×List Nat:=foot {fn:=fun _=>none,ext:=fun _=>none} [] [] base ts a
theorem j2f {S:List Nat} {h k h1:List AObj} {slot gen esz by_:Nat} {mu:Bool} {x y v:AV} (hs:Same S h k) (hx:∀ s∈x.ids,s∈S) (hy:∀ s∈y.ids,s∈S) (ha:z1k h slot gen esz by_ mu x y=some (v,h1)):
  ∃ k1,z1k k slot gen esz by_ mu x y=some (v,k1)∧Same S h1 k1:=by
 have hsrc:=x3q (v:=y) (fun s hm=>hs s (hy s hm))
 unfold z1k at ha⊢
 rw[hsrc] at ha
 split at ha
 ·simp at ha
 ·rename_i ys hys
  split at ha
  ·simp at ha
  ·rename_i hall
   rw[if_neg hall]
   split at ha
   ·rename_i xs t
    split at ha
    ·simp at ha
    ·rename_i hc
     rw[if_neg hc]
     split at ha
     ·rename_i hmu
      rw[if_pos hmu]
      split at ha
      ·simp only[Option.some.injEq,Prod.mk.injEq] at ha
       obtain⟨rfl,rfl⟩:=ha
       exact⟨_,rfl,hs.set _ _⟩
      ·simp only[Option.some.injEq,Prod.mk.injEq] at ha
       obtain⟨rfl,rfl⟩:=ha
       exact⟨_,rfl,hs.set _ _⟩
      ·simp at ha
     ·rename_i hmu
      rw[if_neg hmu]
      split at ha
      ·simp only[Option.some.injEq,Prod.mk.injEq] at ha
       obtain⟨rfl,rfl⟩:=ha
       exact⟨_,rfl,hs.set _ _⟩
      ·simp only[Option.some.injEq,Prod.mk.injEq] at ha
       obtain⟨rfl,rfl⟩:=ha
       exact⟨_,rfl,hs.set _ _⟩
      ·rename_i s g
       have:=hs s (hx s (by simp[AV.ids]))
       rw[this] at ha
       split at ha
       ·rename_i g' e' heq
        split at ha
        ·rename_i hg
         simp only[Option.some.injEq,Prod.mk.injEq] at ha
         obtain⟨rfl,rfl⟩:=ha
         refine⟨_, ?_,(hs.set s _).set _ _⟩
         rw[if_pos hg]
        ·simp at ha
       ·simp at ha
      ·simp at ha
   ·rename_i s g off len
    have hb:z2g h s g=z2g k s g:=z8u (hs s (hx s (by simp[AV.ids])))
    rw[hb] at ha
    split at ha
    ·rename_i es grow fz heq
     split at ha
     ·simp at ha
     ·rename_i hc
      rw[if_neg hc]
      split at ha
      ·rename_i he
       rw[if_pos he]
       simp only[Option.some.injEq,Prod.mk.injEq] at ha
       obtain⟨rfl,rfl⟩:=ha
       exact⟨_,rfl,hs⟩
      ·rename_i he
       rw[if_neg he]
       split at ha
       ·rename_i hgr
        rw[if_pos hgr]
        split at ha
        ·rename_i hc2
         rw[if_pos hc2]
         simp only[Option.some.injEq,Prod.mk.injEq] at ha
         obtain⟨rfl,rfl⟩:=ha
         exact⟨_,rfl,(hs.set s _).set _ _⟩
        ·simp at ha
       ·rename_i hgr
        rw[if_neg hgr]
        split at ha
        ·rename_i hc2
         rw[if_pos hc2]
         split at ha
         ·rename_i hc3
          rw[if_pos hc3]
          simp only[Option.some.injEq,Prod.mk.injEq] at ha
          obtain⟨rfl,rfl⟩:=ha
          exact⟨_,rfl,hs.set s _⟩
         ·simp at ha
        ·rename_i hc2
         rw[if_neg hc2]
         split at ha
         ·rename_i hc3
          rw[if_pos hc3]
          simp only[Option.some.injEq,Prod.mk.injEq] at ha
          obtain⟨rfl,rfl⟩:=ha
          exact⟨_,rfl,hs.set _ _⟩
         ·simp at ha
    ·simp at ha
   ·simp at ha
theorem q5m {S:List Nat} {h k h1:List AObj} {base gen:Nat} {ts:Tmps} {a:AOp} {v:AV} (hs:Same S h k) (hf:∀ s∈(z3l base ts a).1++(z3l base ts a).2,s∈S) (hr:prim h base gen ts a=some (v,h1)):
  ∃ k1,prim k base gen ts a=some (v,k1)∧Same S h1 k1:=by
 cases a with
 | move x=>
   simp only[prim,Option.some.injEq,Prod.mk.injEq] at hr⊢
   obtain⟨rfl,rfl⟩:=hr
   exact⟨k,⟨rfl,rfl⟩,hs⟩
 | pick c a b=>
   simp only[prim] at hr⊢
   split at hr
   ·simp only[Option.some.injEq,Prod.mk.injEq] at hr
    obtain⟨rfl,rfl⟩:=hr
    exact⟨k,rfl,hs⟩
   ·simp at hr
 | alloc n z=>
   simp only[prim] at hr⊢
   split at hr
   ·simp at hr
   ·rename_i hc
    rw[if_neg hc]
    simp only[Option.some.injEq,Prod.mk.injEq] at hr
    obtain⟨rfl,rfl⟩:=hr
    exact⟨_,rfl,hs.set _ _⟩
 | box n x=>
   simp only[prim] at hr⊢
   split at hr
   ·simp at hr
   ·rename_i hc
    rw[if_neg hc]
    simp only[Option.some.injEq,Prod.mk.injEq] at hr
    obtain⟨rfl,rfl⟩:=hr
    exact⟨_,rfl,hs.set _ _⟩
 | build z ps=>
   simp only[prim,Option.map_eq_some_iff,Prod.mk.injEq] at hr⊢
   obtain⟨cs,h2,rfl,rfl⟩:=hr
   exact⟨k,⟨cs,h2,rfl,rfl⟩,hs⟩
 | buildSlice n mu z m ps=>
   simp only[prim] at hr⊢
   split at hr
   ·simp at hr
   ·rename_i hc
    rw[if_neg hc]
    have hcv:q0j h (ps.map fun p=>p.2.ev ts)=q0j k (ps.map fun p=>p.2.ev ts):=q3n fun s hm=>hs s (hf s (by simp only[z3l,foot,List.mem_append];exact .inr (.inr hm)))
    rw[hcv] at hr
    split at hr
    ·simp only[Option.map_eq_some_iff] at hr
     obtain⟨es,h2,h3⟩:=hr
     cases mu with
     | true=>
       simp only[if_true,Prod.mk.injEq] at h3
       obtain⟨rfl,rfl⟩:=h3
       exact⟨_,by simp[h2],(hs.freezeAll _).set _ _⟩
     | false=>
       simp only[Bool.false_eq_true,if_false,Prod.mk.injEq] at h3
       obtain⟨rfl,rfl⟩:=h3
       exact⟨_,by simp[h2],hs.freezeAll _⟩
    ·simp at hr
 | load sz x=>
   simp only[prim] at hr⊢
   have hids:∀ s∈(x.ev ts).ids,s∈S:=fun s hm=>hf s (by simp only[z3l,foot,List.mem_append];exact .inl hm)
   split at hr
   ·rename_i s g i o heq
    have hb:z2g h s g=z2g k s g:=z8u (hs s (hids s (by simp[heq,AV.ids])))
    rw[hb] at hr
    split at hr
    ·simp only[Option.bind_eq_some_iff,Option.map_eq_some_iff,Prod.mk.injEq] at hr
     obtain⟨e,h2,v',h3,rfl,rfl⟩:=hr
     exact⟨k,by simp[h2,h3],hs⟩
    ·simp at hr
   ·simp only[Option.map_eq_some_iff,Prod.mk.injEq] at hr⊢
    obtain⟨v',h3,rfl,rfl⟩:=hr
    exact⟨k,⟨v',h3,rfl,rfl⟩,hs⟩
   ·simp at hr
 | store sz x y=>
   simp only[prim] at hr⊢
   have hids:∀ s∈(x.ev ts).ids,s∈S:=fun s hm=>hf s (by simp only[z3l,foot,List.mem_append];exact .inr (.inl hm))
   have hobs:∀ s∈(y.ev ts).obs.map (·.1),s∈S:=fun s hm=>hf s (by simp only[z3l,foot,List.mem_append];exact .inr (.inr hm))
   split at hr
   ·rename_i s g i o heq
    have hb:z2g h s g=z2g k s g:=z8u (hs s (hids s (by simp[heq,AV.ids])))
    rw[hb] at hr
    split at hr
    ·rename_i es row grow fz hbk
     split at hr
     ·rename_i e v1 h1' he hpub
      obtain⟨k1',hpk,hsame⟩:∃ k1',(if row=true then pub k (y.ev ts) else some (y.ev ts,k))=some (v1,k1')∧Same S h1' k1':=by
       cases row with
       | true=>
         simp only[if_true] at hpub⊢
         exact j5c hs hobs hpub
       | false=>
         simp only[Bool.false_eq_true,if_false,Option.some.injEq,Prod.mk.injEq] at hpub⊢
         obtain⟨rfl,rfl⟩:=hpub
         exact⟨k,⟨rfl,rfl⟩,hs⟩
      split at hr
      ·rename_i hc
       simp only[Option.map_eq_some_iff,Prod.mk.injEq] at hr
       obtain⟨cs,h2,rfl,rfl⟩:=hr
       refine⟨_, ?_,hsame.set s _⟩
       rw[he,hpk]
       simp only[if_pos hc,h2,Option.map_some]
      ·simp at hr
     ·simp at hr
    ·simp at hr
   ·simp at hr
 | nilCheck x=>
   simp only[prim] at hr⊢
   split at hr
   ·simp only[Option.some.injEq,Prod.mk.injEq] at hr
    obtain⟨rfl,rfl⟩:=hr
    exact⟨k,rfl,hs⟩
   ·simp only[Option.some.injEq,Prod.mk.injEq] at hr
    obtain⟨rfl,rfl⟩:=hr
    exact⟨k,rfl,hs⟩
   ·simp at hr
 | binOp op t x y=>
   simp only[prim,Option.map_eq_some_iff,Prod.mk.injEq] at hr⊢
   obtain⟨cs,h2,rfl,rfl⟩:=hr
   exact⟨k,⟨cs,h2,rfl,rfl⟩,hs⟩
 | unOp op x=>
   simp only[prim,Option.map_eq_some_iff,Prod.mk.injEq] at hr⊢
   obtain⟨cs,h2,rfl,rfl⟩:=hr
   exact⟨k,⟨cs,h2,rfl,rfl⟩,hs⟩
 | cInt kd x=>
   simp only[prim] at hr⊢
   split at hr
   ·simp only[Option.some.injEq,Prod.mk.injEq] at hr
    obtain⟨rfl,rfl⟩:=hr
    exact⟨k,rfl,hs⟩
   ·simp at hr
 | cStr x=>
   simp only[prim] at hr⊢
   split at hr
   ·simp only[Option.some.injEq,Prod.mk.injEq] at hr
    obtain⟨rfl,rfl⟩:=hr
    exact⟨k,rfl,hs⟩
   ·simp at hr
 | toBytes x=>
   simp only[prim] at hr⊢
   split at hr
   ·simp only[Option.some.injEq,Prod.mk.injEq] at hr
    obtain⟨rfl,rfl⟩:=hr
    exact⟨k,rfl,hs⟩
   ·simp at hr
 | ofBytes x=>
   simp only[prim] at hr⊢
   have hids:∀ s∈(x.ev ts).ids,s∈S:=fun s hm=>hf s (by simp only[z3l,foot,List.mem_append];exact .inl hm)
   have hsrc:=x3q (h:=h) (k:=k) (v:=x.ev ts) (fun s hm=>hs s (hids s hm))
   split at hr
   ·simp at hr
   ·rw[hsrc] at hr
    simp only[Option.map_eq_some_iff,Prod.mk.injEq] at hr⊢
    obtain⟨cs,h2,rfl,rfl⟩:=hr
    exact⟨k,⟨cs,h2,rfl,rfl⟩,hs⟩
 | makeMap n=>
   simp only[prim,Option.some.injEq,Prod.mk.injEq] at hr⊢
   obtain⟨rfl,rfl⟩:=hr
   exact⟨_,⟨rfl,rfl⟩,hs.set _ _⟩
 | lookup t z x ix ok=>
   simp only[prim] at hr⊢
   have hids:∀ s∈(x.ev ts).ids,s∈S:=fun s hm=>hf s (by simp only[z3l,foot,List.mem_append];exact .inl hm)
   rw[j8u (h:=h) (k:=k) (v:=x.ev ts) (fun s hm=>hs s (hids s hm))] at hr
   split at hr
   ·split at hr
    ·rename_i hc
     rw[if_pos hc]
     simp only[Option.map_eq_some_iff,Prod.mk.injEq] at hr⊢
     obtain⟨cs,h2,rfl,rfl⟩:=hr
     exact⟨k,⟨cs,h2,rfl,rfl⟩,hs⟩
    ·simp at hr
   ·simp at hr
 | mapUpdate t m kk x=>
   simp only[prim] at hr⊢
   have hids:∀ s∈(m.ev ts).ids,s∈S:=fun s hm=>hf s (by simp only[z3l,foot,List.mem_append];exact .inr (.inl hm))
   have hobs:∀ s∈(x.ev ts).obs.map (·.1),s∈S:=fun s hm=>hf s (by simp only[z3l,foot,List.mem_append];exact .inr (.inr hm))
   split at hr
   ·rename_i s g heq
    have hb:z5q h s g=z5q k s g:=q6t (hs s (hids s (by simp[heq,AV.ids])))
    rw[hb] at hr
    split at hr
    ·rename_i es v1 h1' hes hpub
     obtain⟨k1',hpk,hsame⟩:=j5c hs hobs hpub
     split at hr
     ·rename_i hc
      simp only[Option.map_eq_some_iff,Prod.mk.injEq] at hr
      obtain⟨cs,h2,rfl,rfl⟩:=hr
      refine⟨_, ?_,hsame.set s _⟩
      rw[hes,hpk]
      simp only[if_pos hc,h2,Option.map_some]
     ·simp at hr
    ·simp at hr
   ·simp at hr
 | makeRow n z by_ l c=>
   simp only[prim] at hr⊢
   split at hr
   ·split at hr
    ·rename_i hc
     rw[if_pos hc]
     simp only[Option.some.injEq,Prod.mk.injEq] at hr
     obtain⟨rfl,rfl⟩:=hr
     exact⟨_,rfl,hs⟩
    ·rename_i hc
     rw[if_neg hc]
     split at hr
     ·rename_i hc
      rw[if_pos hc]
      simp only[Option.some.injEq,Prod.mk.injEq] at hr
      obtain⟨rfl,rfl⟩:=hr
      exact⟨_,rfl,hs.set _ _⟩
     ·simp at hr
   ·simp at hr
 | makeSlice n z by_ l c=>
   simp only[prim] at hr⊢
   split at hr
   ·split at hr
    ·rename_i hc
     rw[if_pos hc]
     simp only[Option.some.injEq,Prod.mk.injEq] at hr
     obtain⟨rfl,rfl⟩:=hr
     exact⟨_,rfl,hs.set _ _⟩
    ·simp at hr
   ·simp at hr
 | slice e x lo hi mx=>
   simp only[prim] at hr⊢
   have hids:∀ s∈(x.ev ts).ids,s∈S:=fun s hm=>hf s (by simp only[z3l,foot,List.mem_append];exact .inl hm)
   rw[x5r (h:=h) (k:=k) (v:=x.ev ts) (fun s hm=>hs s (hids s hm))] at hr
   simp only[Option.map_eq_some_iff,Prod.mk.injEq] at hr⊢
   obtain⟨cs,h2,rfl,rfl⟩:=hr
   exact⟨k,⟨cs,h2,rfl,rfl⟩,hs⟩
 | fieldAddr x o=>
   simp only[prim] at hr⊢
   split at hr
   ·simp only[Option.some.injEq,Prod.mk.injEq] at hr
    obtain⟨rfl,rfl⟩:=hr
    exact⟨k,rfl,hs⟩
   ·simp only[Option.some.injEq,Prod.mk.injEq] at hr
    obtain⟨rfl,rfl⟩:=hr
    exact⟨k,rfl,hs⟩
   ·simp at hr
 | field x o sz=>
   simp only[prim] at hr⊢
   split at hr
   ·simp only[Option.map_eq_some_iff,Prod.mk.injEq] at hr⊢
    obtain⟨cs,h2,rfl,rfl⟩:=hr
    exact⟨k,⟨cs,h2,rfl,rfl⟩,hs⟩
   ·simp at hr
 | indexAddr arr esz x ix=>
   simp only[prim] at hr⊢
   have hids:∀ s∈(x.ev ts).ids,s∈S:=fun s hm=>hf s (by simp only[z3l,foot,List.mem_append];exact .inl hm)
   split at hr
   ·split at hr
    ·rename_i h0
     rw[if_pos h0]
     split at hr
     ·split at hr
      ·split at hr
       ·rename_i hc
        rw[if_pos hc]
        simp only[Option.some.injEq,Prod.mk.injEq] at hr
        obtain⟨rfl,rfl⟩:=hr
        exact⟨k,rfl,hs⟩
       ·simp at hr
      ·simp at hr
     ·rename_i s g off len heq
      have hb:z2g h s g=z2g k s g:=z8u (hs s (hids s (by simp[heq,AV.ids])))
      rw[hb] at hr
      split at hr
      ·split at hr
       ·split at hr
        ·rename_i hc
         rw[if_pos hc]
         simp only[Option.some.injEq,Prod.mk.injEq] at hr
         obtain⟨rfl,rfl⟩:=hr
         exact⟨k,rfl,hs⟩
        ·simp at hr
       ·simp at hr
      ·simp at hr
     ·split at hr
      ·rename_i hc
       rw[if_pos hc]
       simp only[Option.some.injEq,Prod.mk.injEq] at hr
       obtain⟨rfl,rfl⟩:=hr
       exact⟨k,rfl,hs⟩
      ·simp at hr
     ·split at hr
      ·rename_i hc
       rw[if_pos hc]
       simp only[Option.some.injEq,Prod.mk.injEq] at hr
       obtain⟨rfl,rfl⟩:=hr
       exact⟨k,rfl,hs⟩
      ·simp at hr
     ·simp at hr
    ·simp at hr
   ·simp at hr
 | index arr x ix=>
   simp only[prim] at hr⊢
   split at hr
   ·split at hr
    ·rename_i h0
     rw[if_pos h0]
     split at hr
     ·simp only[Option.map_eq_some_iff,Prod.mk.injEq] at hr⊢
      obtain⟨cs,h2,rfl,rfl⟩:=hr
      exact⟨k,⟨cs,h2,rfl,rfl⟩,hs⟩
     ·split at hr
      ·rename_i hc
       rw[if_pos hc]
       simp only[Option.map_eq_some_iff,Prod.mk.injEq] at hr⊢
       obtain⟨cs,h2,rfl,rfl⟩:=hr
       exact⟨k,⟨cs,h2,rfl,rfl⟩,hs⟩
      ·simp at hr
     ·simp at hr
    ·simp at hr
   ·simp at hr
 | makeFunc f cap=>
   simp only[prim,Option.some.injEq,Prod.mk.injEq] at hr⊢
   obtain⟨rfl,rfl⟩:=hr
   exact⟨k,⟨rfl,rfl⟩,hs⟩
 | extract x i=>
   simp only[prim] at hr⊢
   split at hr
   ·simp only[Option.map_eq_some_iff,Prod.mk.injEq] at hr⊢
    obtain⟨cs,h2,rfl,rfl⟩:=hr
    exact⟨k,⟨cs,h2,rfl,rfl⟩,hs⟩
   ·simp at hr
 | len t x=>
   simp only[prim] at hr⊢
   have hids:∀ s∈(x.ev ts).ids,s∈S:=fun s hm=>hf s (by simp only[z3l,foot,List.mem_append];exact .inl hm)
   rw[j2e (h:=h) (k:=k) (v:=x.ev ts) (fun s hm=>hs s (hids s hm))] at hr
   simp only[Option.map_eq_some_iff,Prod.mk.injEq] at hr⊢
   obtain⟨cs,h2,rfl,rfl⟩:=hr
   exact⟨k,⟨cs,h2,rfl,rfl⟩,hs⟩
 | minmax m x y=>
   simp only[prim] at hr⊢
   split at hr
   ·simp only[Option.some.injEq,Prod.mk.injEq] at hr
    obtain⟨rfl,rfl⟩:=hr
    exact⟨k,rfl,hs⟩
   ·simp at hr
 | append n esz by_ mu x y=>
   simp only[prim] at hr⊢
   refine j2f hs (fun s hm=>hf s ?_) (fun s hm=>hf s ?_) hr
   ·simp only[z3l,foot,List.mem_append,List.mem_cons]
    exact .inr (.inr hm)
   ·simp only[z3l,foot,List.mem_append]
    exact .inl hm
 | backward f x=>
   simp only[prim] at hr⊢
   split at hr
   ·rename_i hc
    rw[if_pos hc]
    simp only[Option.some.injEq,Prod.mk.injEq] at hr⊢
    obtain⟨rfl,rfl⟩:=hr
    exact⟨k,⟨rfl,rfl⟩,hs⟩
   ·simp at hr
 | call f xs=>simp[prim] at hr
 | callv x xs=>simp[prim] at hr
 | bad=>simp[prim] at hr
theorem z5j {h:List AObj} {i s:Nat} {o:AObj} (hn:s≠i):(h.set i o)[s]? =h[s]? :=List.getElem?_set_ne (Ne.symm hn)
theorem j8v {h h1:List AObj} {slot gen esz by_:Nat} {mu:Bool} {x y v:AV} (ha:z1k h slot gen esz by_ mu x y=some (v,h1)) (s:Nat) (hn:s∉slot::x.ids):h1[s]? =h[s]? :=by
 simp only[List.mem_cons,not_or] at hn
 obtain⟨hn1,hn2⟩:=hn
 unfold z1k at ha
 split at ha
 ·simp at ha
 ·split at ha
  ·simp at ha
  ·split at ha
   ·split at ha
    ·simp at ha
    ·split at ha
     ·split at ha
      all_goals first
       | (simp at ha;done)
       | (simp only[Option.some.injEq,Prod.mk.injEq] at ha;obtain⟨_,rfl⟩:=ha;exact z5j hn1)
     ·split at ha
      ·simp only[Option.some.injEq,Prod.mk.injEq] at ha;obtain⟨_,rfl⟩:=ha;exact z5j hn1
      ·simp only[Option.some.injEq,Prod.mk.injEq] at ha;obtain⟨_,rfl⟩:=ha;exact z5j hn1
      ·rename_i q g
       split at ha
       ·split at ha
        ·simp only[Option.some.injEq,Prod.mk.injEq] at ha
         obtain⟨_,rfl⟩:=ha
         rw[z5j hn1,z5j (fun e=>hn2 (by subst e;simp[AV.ids]))]
        ·simp at ha
       ·simp at ha
      ·simp at ha
   ·rename_i q g off len
    have hq:s≠q:=fun e=>hn2 (by subst e;simp[AV.ids])
    repeat' split at ha
    all_goals first
     | (simp at ha;done)
     | (simp only[Option.some.injEq,Prod.mk.injEq] at ha;obtain⟨_,rfl⟩:=ha;first | rfl | (rw[z5j hn1,z5j hq];done) | (rw[z5j hq];done) | (rw[z5j hn1];done))
   ·simp at ha
theorem z9x {h h1:List AObj} {base gen:Nat} {ts:Tmps} {a:AOp} {v:AV} (hr:prim h base gen ts a=some (v,h1)) (s:Nat) (hn:s∉(z3l base ts a).2):h1[s]? =h[s]? :=by
 cases a with
 | append k esz by_ mu x y=>exact j8v hr s (by simpa only[z3l,foot] using hn)
 | alloc n z=>
   simp only[prim] at hr
   split at hr
   ·simp at hr
   ·simp only[Option.some.injEq,Prod.mk.injEq] at hr
    obtain⟨_,rfl⟩:=hr
    exact z5j (by simpa [z3l,foot] using hn)
 | box n z=>
   simp only[prim] at hr
   split at hr
   ·simp at hr
   ·simp only[Option.some.injEq,Prod.mk.injEq] at hr
    obtain⟨_,rfl⟩:=hr
    exact z5j (by simpa [z3l,foot] using hn)
 | makeMap n=>
   simp only[prim,Option.some.injEq,Prod.mk.injEq] at hr
   obtain⟨_,rfl⟩:=hr
   exact z5j (by simpa [z3l,foot] using hn)
 | makeSlice n z by_ l c=>
   simp only[prim] at hr
   repeat' split at hr
   all_goals first
    | (simp at hr;done)
    | (simp only[Option.some.injEq,Prod.mk.injEq] at hr;obtain⟨_,rfl⟩:=hr;exact z5j (by simpa [z3l,foot] using hn))
 | makeRow n z by_ l c=>
   simp only[prim] at hr
   repeat' split at hr
   all_goals first
    | (simp at hr;done)
    | (simp only[Option.some.injEq,Prod.mk.injEq] at hr;obtain⟨_,rfl⟩:=hr;first | rfl | exact z5j (by simpa [z3l,foot] using hn))
 | buildSlice n mu z m ps=>
   simp only[z3l,foot,List.mem_append,not_or] at hn
   simp only[prim] at hr
   split at hr
   ·simp at hr
   ·split at hr
    ·simp only[Option.map_eq_some_iff] at hr
     obtain⟨es,_,h3⟩:=hr
     cases mu with
     | true=>
       simp only[if_true,Prod.mk.injEq] at h3
       obtain⟨_,rfl⟩:=h3
       rw[z5j (by simpa using hn.1),z5u _ _ hn.2]
     | false=>
       simp only[Bool.false_eq_true,if_false,Prod.mk.injEq] at h3
       obtain⟨_,rfl⟩:=h3
       exact z5u _ _ hn.2
    ·simp at hr
 | store sz x y=>
   simp only[z3l,foot,List.mem_append,not_or] at hn
   simp only[prim] at hr
   split at hr
   ·rename_i q g i o heq
    have hq:s≠q:=fun e=>hn.1 (by subst e;simp[heq,AV.ids])
    split at hr
    ·rename_i es row grow fz hbk
     split at hr
     ·rename_i e v1 h1' he hpub
      have hp:h1'[s]? =h[s]? :=by
       cases row with
       | true=>
         simp only[if_true] at hpub
         exact k1w hpub s hn.2
       | false=>
         simp only[Bool.false_eq_true,if_false,Option.some.injEq,Prod.mk.injEq] at hpub
         obtain⟨_,rfl⟩:=hpub
         rfl
      split at hr
      ·simp only[Option.map_eq_some_iff,Prod.mk.injEq] at hr
       obtain⟨cs,_,_,rfl⟩:=hr
       rw[z5j hq,hp]
      ·simp at hr
     ·simp at hr
    ·simp at hr
   ·simp at hr
 | mapUpdate t m kk x=>
   simp only[z3l,foot,List.mem_append,not_or] at hn
   simp only[prim] at hr
   split at hr
   ·rename_i q g heq
    have hq:s≠q:=fun e=>hn.1 (by subst e;simp[heq,AV.ids])
    split at hr
    ·rename_i es v1 h1' hes hpub
     split at hr
     ·simp only[Option.map_eq_some_iff,Prod.mk.injEq] at hr
      obtain⟨cs,_,_,rfl⟩:=hr
      rw[z5j hq,k1w hpub s hn.2]
     ·simp at hr
    ·simp at hr
   ·simp at hr
 | _=>
   simp only[prim] at hr
   repeat' split at hr
   all_goals first
    | (simp at hr;done)
    | (simp only[Option.some.injEq,Prod.mk.injEq] at hr;obtain⟨_,rfl⟩:=hr;rfl)
    | (simp only[Option.map_eq_some_iff,Prod.mk.injEq] at hr;obtain⟨_,_,_,rfl⟩:=hr;rfl)
    | (simp only[Option.bind_eq_some_iff,Option.map_eq_some_iff,Prod.mk.injEq] at hr;obtain⟨_,_,_,_,_,rfl⟩:=hr;rfl)
mutual
theorem beq_sound:∀ {a b:AV},a.beq b=true→a=b
 | .undef,b,h=>by cases b <;> simp[AV.beq] at h⊢
 | .int ..,b,h=>by cases b <;> simp[AV.beq] at h⊢;exact h
 | .bool _,b,h=>by cases b <;> simp[AV.beq] at h⊢;exact h
 | .str _,b,h=>by cases b <;> simp[AV.beq] at h⊢;exact h
 | .agg _,b,h=>by cases b <;> simp[AV.beq] at h⊢;exact z6t h
 | .tup _,b,h=>by cases b <;> simp[AV.beq] at h⊢;exact z6t h
 | .sl _ _,b,h=>by cases b <;> simp[AV.beq] at h⊢;exact⟨z6t h.1,h.2⟩
 | .ob ..,b,h=>by cases b <;> simp[AV.beq] at h⊢;simp[h]
 | .ptr ..,b,h=>by cases b <;> simp[AV.beq] at h⊢;simp[h]
 | .iptr _ _,b,h=>by cases b <;> simp[AV.beq] at h⊢;exact⟨z6t h.1,h.2⟩
 | .nilptr,b,h=>by cases b <;> simp[AV.beq] at h⊢
 | .mp ..,b,h=>by cases b <;> simp[AV.beq] at h⊢;simp[h]
 | .nilmap,b,h=>by cases b <;> simp[AV.beq] at h⊢
 | .fn _ _,b,h=>by cases b <;> simp[AV.beq] at h⊢;exact⟨h.1,z6t h.2⟩
 | .nilfn,b,h=>by cases b <;> simp[AV.beq] at h⊢
 | .nilif,b,h=>by cases b <;> simp[AV.beq] at h⊢
 | .bwd _ _,b,h=>by cases b <;> simp[AV.beq] at h⊢;exact⟨h.1,beq_sound h.2⟩
theorem z6t:∀ {a b:List AV},j8d a b=true→a=b
 | [],b,h=>by cases b <;> simp[j8d] at h⊢
 | x::xs,b,h=>by cases b <;> simp[j8d] at h⊢;exact⟨beq_sound h.1,z6t h.2⟩
end
theorem x3r:∀ {a b:List (AV×AV)},v4r a b=true→a=b
 | [],b,h=>by cases b <;> simp[v4r] at h⊢
 | x::xs,b,h=>by
   cases b with
   | nil=>simp[v4r] at h
   | cons y ys=>
     simp only[v4r,Bool.and_eq_true] at h
     rw[x3r h.2,Prod.ext (beq_sound h.1.1) (beq_sound h.1.2)]
theorem AObj.beq_sound {a b:AObj} (h:a.beq b=true):a=b:=by
 cases a <;> cases b <;> simp[AObj.beq] at h⊢
 ·obtain⟨⟨⟨⟨h1,h2⟩,h3⟩,h4⟩,h5⟩:=h
  exact⟨h1,z6t h2,h3,h4,h5⟩
 ·exact h
 ·exact⟨h.1,x3r h.2⟩
theorem x0e {h:List AObj}:∀ (n:Nat) (seen z9o:List Nat) (s:Nat),s∈seen→s∈reach h n seen z9o
 | 0,seen,z9o,s,hs=>by simp[reach,hs]
 | n + 1,seen,[],s,hs=>by simpa [reach] using hs
 | n + 1,seen,t::z9o,s,hs=>by
   simp only[reach]
   split
   ·exact x0e n seen z9o s hs
   ·exact x0e n _ _ s (List.mem_cons_of_mem _ hs)
theorem q3o {h k:List AObj}:∀ (n:Nat) (seen z9o:List Nat),Same (reach h n seen z9o) h k→reach k n seen z9o=reach h n seen z9o
 | 0,seen,z9o,_=>rfl
 | n + 1,seen,[],_=>rfl
 | n + 1,seen,t::z9o,hs=>by
   simp only[reach] at hs⊢
   split
   ·rename_i hc
    rw[if_pos hc] at hs
    exact q3o n seen z9o hs
   ·rename_i hc
    rw[if_neg hc] at hs
    have ht:h[t]? =k[t]? :=hs t (x0e n _ _ t (List.mem_cons_self))
    rw[←ht]
    exact q3o n _ _ hs
theorem z8l {h k:List AObj} {byref:List Nat}:∀ {args:List AV} {i:Nat},Same ((z4r args).map (·.1)) h k→z1v h byref i args=z1v k byref i args
 | [],_,_=>rfl
 | v::vs,i,hs=>by
   simp only[z1v]
   rw[x0d (v:=v) (fun s hm=>hs s (by simp only[z4r,List.map_append,List.mem_append];exact .inl hm)),z8l (args:=vs) (fun s hm=>hs s (by simp only[z4r,List.map_append,List.mem_append];exact .inr hm))]
theorem q5n {T:List Nat}:∀ {h h':List AObj} {k i:Nat},(z0t T k h h')[i]? =match h[i]? with
  | none=>none
  | some o=>match h'[i]? with
    | none=>some o
    | some o'=>some (if T.contains (k + i) then o' else o)
 | [],h',k,i=>by cases h' <;> simp[z0t]
 | o::h,[],k,i=>by
   simp only[z0t,List.getElem?_nil]
   cases (o::h)[i]? <;> rfl
 | o::h,o'::h',k,i=>by
   cases i with
   | zero=>simp[z0t]
   | succ i=>
     simp only[z0t,List.getElem?_cons_succ,q5n]
     rw[show k + 1 + i=k + (i + 1) by omega]
theorem z2c {T:List Nat}:∀ {h h':List AObj} {k:Nat},(z0t T k h h').length=h.length
 | [],h',_=>by cases h' <;> rfl
 | o::h,[],_=>rfl
 | o::h,o'::h',k=>by simp[z0t,z2c (h:=h) (h':=h')]
theorem k1x {T:List Nat} {h k:List AObj} (hl:k.length=h.length) (hs:Same T h k):maskFrom T 0 h=maskFrom T 0 k:=by
 apply List.ext_getElem?
 intro i
 rw[z9v,z9v,Nat.zero_add]
 by_cases ht:T.contains i=true
 ·rw[hs i (by simpa using ht)]
 ·have ht:T.contains i=false:=by simpa using ht
  simp only[ht,Bool.false_eq_true,if_false]
  by_cases hi:i < h.length
  ·rw[List.getElem?_eq_getElem hi,List.getElem?_eq_getElem (show i < k.length by omega)]
   rfl
  ·rw[List.getElem?_eq_none (by omega),List.getElem?_eq_none (show k.length≤i by omega)]
structure Alike (n:Nat) (h k h1 k1:List AObj):Prop where
 len:k1.length=h1.length
 new:∀ s,n≤s→k1[s]? =h1[s]?
 old:∀ s,s < n→h[s]? =k[s]? →h1[s]? =k1[s]?
theorem Alike.merge {T:List Nat} {h k h0 k0 hr:List AObj} (hl:k.length=h.length) (hl1:k0.length=h.length) (hl2:h0.length=h.length) (hp:∀ (s:Nat),h[s]? =k[s]? →h0[s]? =k0[s]?):Alike h.length h k (z0t T 0 h0 hr) (z0t T 0 k0 hr)∧Alike h.length h k (z0t T 0 h0 hr++hr.drop h.length) (z0t T 0 k0 hr++hr.drop k.length):=by
 have hget:∀ s,h[s]? =k[s]? →(z0t T 0 h0 hr)[s]? =(z0t T 0 k0 hr)[s]? :=fun s he=>by
  rw[q5n,q5n,hp s he]
 refine⟨⟨by rw[z2c,z2c];omega,fun s hs=> ?_,fun s _ he=>hget s he⟩,⟨by simp[z2c];omega,fun s hs=> ?_,fun s hs he=> ?_⟩⟩
 ·rw[List.getElem?_eq_none (by rw[z2c];omega),List.getElem?_eq_none (by rw[z2c];omega)]
 ·rw[List.getElem?_append_right (by rw[z2c];omega),List.getElem?_append_right (by rw[z2c];omega),z2c,z2c,hl,hl1,hl2]
 ·rw[List.getElem?_append_left (by rw[z2c];omega),List.getElem?_append_left (by rw[z2c];omega)]
  exact hget s he
theorem x9b {R:Nat→ACode→St→Option (AEx×St)} {Γ:AProg} {f:Nat} {args:List AV} {h k h1:List AObj} {clk c:Nat} {v:AV} (hl:k.length=h.length) (hs:Same (z1a Γ f args h) h k)
  (hr:z0o R Γ f args h clk=some (v,h1,c)):∃ k1,z0o R Γ f args k clk=some (v,k1,c)∧Alike h.length h k h1 k1:=by
 have hobs:Same ((z4r args).map (·.1)) h k:=fun s hm=>hs s (by simp only[z1a,List.mem_append];exact .inl hm)
 unfold z0o at hr⊢
 cases hext:Γ.ext f with
 | some sem=>
   simp only[hext] at hr⊢
   rw[←z8l hobs]
   split at hr
   ·rename_i asx hpass
    split at hr
    ·rename_i hlent
     rw[if_pos hlent]
     simp only[Option.map_eq_some_iff,Prod.mk.injEq] at hr⊢
     obtain⟨v0,h2,rfl,rfl,rfl⟩:=hr
     exact⟨k,⟨v0,h2,rfl,rfl,rfl⟩,⟨hl,fun s hge=>by rw[List.getElem?_eq_none (by omega),List.getElem?_eq_none (by omega)],fun s _ he=>he⟩⟩
    ·simp at hr
   ·simp at hr
 | none=>
   simp only[hext] at hr⊢
   cases hfn:Γ.fn f with
   | none=>simp[hfn] at hr
   | some af=>
     simp only[hfn] at hr⊢
     rw[←z8l hobs]
     cases hpass:z1v h af.byref 0 args with
     | none=>simp[hpass] at hr
     | some asx=>
       simp only[hpass] at hr⊢
       have hT:Same (reach h (h.length + 1) [] (idsL asx)) h k:=fun s hm=>hs s (by simp only[z1a,hext,hfn,hpass,List.mem_append];exact .inr hm)
       have hreach:reach k (k.length + 1) [] (idsL asx)=reach h (h.length + 1) [] (idsL asx):=by rw[hl];exact q3o _ _ _ hT
       have hfs:=hT.freezeAll (z0u af.byref 0 args)
       have hmask:=k1x (by rw[z2s,z2s];exact hl) hfs
       rw[hreach,←hmask,hl]
       have hfl:=z2s (z0u af.byref 0 args) h
       have hfk:=z2s (z0u af.byref 0 args) k
       have hpt:∀ (s:Nat),h[s]? =k[s]? →(freezeAll h (z0u af.byref 0 args))[s]? =(freezeAll k (z0u af.byref 0 args))[s]? :=fun s he=>
        (Same.freezeAll (S:=[s]) (fun q hq=>by simp at hq;subst hq;exact he) _) s (by simp)
       generalize freezeAll h (z0u af.byref 0 args)=hf at *
       generalize freezeAll k (z0u af.byref 0 args)=kf at *
       generalize reach h (h.length + 1) [] (idsL asx)=T at *
       split at hr
       ·simp at hr
       ·simp at hr
       ·rename_i e s hno hx
        split at hr
        ·simp at hr
        ·rename_i vs hvs
         split at hr
         ·simp at hr
         ·rename_i v0 hconv
          generalize (if af.owned=true then s.h else freezeAll s.h (z1l vs).obs)=hrr at *
          have key:∀ h0 k0:List AObj,k0.length=h.length→h0.length=h.length→(∀ (s:Nat),h[s]? =k[s]? →h0[s]? =k0[s]?)→
           (if ((v0.ids++(T.map fun i=>((hrr[i]?).map AObj.ids).getD []).flatten).all (· < h.length))=true then some (v0,z0t T 0 h0 hrr,clk) else some (v0,z0t T 0 h0 hrr++hrr.drop h.length,s.clk))=some (v,h1,c)→
           ∃ k1,(if ((v0.ids++(T.map fun i=>((hrr[i]?).map AObj.ids).getD []).flatten).all (· < h.length))=true then some (v0,z0t T 0 k0 hrr,clk) else some (v0,z0t T 0 k0 hrr++hrr.drop h.length,s.clk))=some (v,k1,c)∧Alike h.length h k h1 k1:=by
           intro h0 k0 g1 g2 g3 hq
           obtain⟨a1,a2⟩:=Alike.merge (T:=T) (hr:=hrr) hl g1 g2 g3
           split at hq
           ·rename_i hc
            rw[if_pos hc]
            simp only[Option.some.injEq,Prod.mk.injEq] at hq
            obtain⟨rfl,rfl,rfl⟩:=hq
            exact⟨_,rfl,a1⟩
           ·rename_i hc
            rw[if_neg hc]
            simp only[Option.some.injEq,Prod.mk.injEq] at hq
            obtain⟨rfl,rfl,rfl⟩:=hq
            rw[hl] at a2
            exact⟨_,rfl,a2⟩
          by_cases hflat:(v0.flat && T.isEmpty)=true
          ·simp only[if_pos hflat] at hr⊢
           exact key h k hl rfl (fun _ he=>he) hr
          ·simp only[if_neg hflat] at hr⊢
           exact key hf kf (by rw[hfk,hl]) hfl hpt hr
theorem q5o {byref:List Nat}:∀ {args:List AV} {i:Nat} {x:Nat×Nat},x∈z0u byref i args→x∈z4r args
 | [],_,_,h=>by simp[z0u] at h
 | v::vs,i,x,h=>by
   simp only[z0u,List.mem_append] at h
   simp only[z4r,List.mem_append]
   rcases h with h | h
   ·split at h
    ·simp at h
    ·exact .inl h
   ·exact .inr (q5o h)
theorem q5p {Γ:AProg} {f:Nat} {args:List AV} {h k:List AObj} (hl:k.length=h.length) (hs:Same (z1a Γ f args h) h k):z1a Γ f args k=z1a Γ f args h:=by
 have hobs:Same ((z4r args).map (·.1)) h k:=fun s hm=>hs s (by simp only[z1a,List.mem_append];exact .inl hm)
 unfold z1a at hs⊢
 cases hext:Γ.ext f with
 | some sem=>rfl
 | none=>
   simp only[hext] at hs⊢
   cases hfn:Γ.fn f with
   | none=>rfl
   | some af=>
     simp only[hfn] at hs⊢
     rw[←z8l hobs]
     cases hpass:z1v h af.byref 0 args with
     | none=>rfl
     | some asx=>
       simp only[hpass] at hs⊢
       rw[hl,q3o _ _ _ fun s hm=>hs s (List.mem_append_right _ hm)]
theorem q3p {R:Nat→ACode→St→Option (AEx×St)} {Γ:AProg} {f:Nat} {args:List AV} {h h1:List AObj} {clk c:Nat} {v:AV}
  (hr:z0o R Γ f args h clk=some (v,h1,c)):h.length≤h1.length∧∀ s,s < h.length→s∉z1a Γ f args h→h1[s]? =h[s]? :=by
 unfold z0o at hr
 unfold z1a
 cases hext:Γ.ext f with
 | some sem=>
   simp only[hext] at hr
   split at hr
   ·split at hr
    ·simp only[Option.map_eq_some_iff,Prod.mk.injEq] at hr
     obtain⟨v0,h2,rfl,rfl,rfl⟩:=hr
     exact⟨Nat.le_refl _,fun _ _ _=>rfl⟩
    ·simp at hr
   ·simp at hr
 | none=>
   simp only[hext] at hr⊢
   cases hfn:Γ.fn f with
   | none=>simp[hfn] at hr
   | some af=>
     simp only[hfn] at hr⊢
     cases hpass:z1v h af.byref 0 args with
     | none=>simp[hpass] at hr
     | some asx=>
       simp only[hpass] at hr⊢
       have hfl:=z2s (z0u af.byref 0 args) h
       have hfo:∀ s,s∉(z4r args).map (·.1)→(freezeAll h (z0u af.byref 0 args))[s]? =h[s]? :=fun s hn=>
        z5u _ _ fun hm=>hn (by
         obtain⟨x,hx,rfl⟩:=List.mem_map.1 hm
         exact List.mem_map.2 ⟨x,q5o hx,rfl⟩)
       generalize freezeAll h (z0u af.byref 0 args)=hf at *
       generalize reach h (h.length + 1) [] (idsL asx)=T at *
       split at hr
       ·simp at hr
       ·simp at hr
       ·rename_i e s hno hx
        split at hr
        ·simp at hr
        ·rename_i vs hvs
         split at hr
         ·simp at hr
         ·rename_i v0 hconv
          generalize (if af.owned=true then s.h else freezeAll s.h (z1l vs).obs)=hrr at *
          have hpre:∃ h0:List AObj,(if (v0.flat && T.isEmpty)=true then h else hf)=h0∧h0.length=h.length∧∀ s,s∉(z4r args).map (·.1)→h0[s]? =h[s]? :=by
           refine⟨_,rfl, ?_, ?_⟩
           ·split
            ·rfl
            ·exact hfl
           ·intro s hn
            split
            ·rfl
            ·exact hfo s hn
          obtain⟨h0,he,h0l,h0o⟩:=hpre
          rw[he] at hr
          have key:∀ s,s < h.length→s∉(z4r args).map (·.1)++T→(z0t T 0 h0 hrr)[s]? =h[s]? :=fun s hs hn=>by
           simp only[List.mem_append,not_or] at hn
           rw[q5n,h0o s hn.1,List.getElem?_eq_getElem hs]
           simp only
           split
           ·rfl
           ·rw[if_neg (by simpa using hn.2)]
          split at hr
          ·simp only[Option.some.injEq,Prod.mk.injEq] at hr
           obtain⟨rfl,rfl,rfl⟩:=hr
           exact⟨by rw[z2c,h0l];exact Nat.le_refl _,key⟩
          ·simp only[Option.some.injEq,Prod.mk.injEq] at hr
           obtain⟨rfl,rfl,rfl⟩:=hr
           refine⟨by rw[List.length_append,z2c,h0l];omega,fun s hs hn=> ?_⟩
           rw[List.getElem?_append_left (by rw[z2c,h0l];exact hs)]
           exact key s hs hn
theorem q4q {F:List Nat} {h h1:List AObj} {s:Nat} (hs:s < h.length) (hl:h.length≤h1.length) (ho:s∉F→h1[s]? =h[s]?) (hn:s∉(z3r F h h1).2):h1[s]? =h[s]? :=by
 by_cases hF:s∈F
 ·simp only[z3r,List.mem_filter,hF,true_and,Bool.not_eq_eq_eq_not,Bool.not_true,Bool.not_eq_false] at hn
  have:=AObj.beq_sound hn
  simp only[List.getD,List.getElem?_eq_getElem hs,List.getElem?_eq_getElem (show s < h1.length by omega),Option.getD_some] at this
  rw[List.getElem?_eq_getElem hs,List.getElem?_eq_getElem (show s < h1.length by omega),this]
 ·exact ho hF
theorem q8b {F:List Nat} {h h1 k k1:List AObj} (h0:∀ s∈F,k[s]? =h[s]?) (h2:∀ s∈F,k1[s]? =h1[s]?):z3r F k k1=z3r F h h1:=by
 unfold z3r
 congr 1
 apply List.filter_congr
 intro s hs
 simp only[List.getD,h0 s hs,h2 s hs]
def Agree (l:List Nat) (ts ts':Tmps):Prop:=∀ t∈l,ts t=ts' t
theorem Agree.left {a b:List Nat} {ts ts':Tmps} (h:Agree (a++b) ts ts'):Agree a ts ts':=fun t ht=>h t (List.mem_append_left _ ht)
theorem Agree.right {a b:List Nat} {ts ts':Tmps} (h:Agree (a++b) ts ts'):Agree b ts ts':=fun t ht=>h t (List.mem_append_right _ ht)
theorem z0r {ts ts':Tmps} {x:AOpd} (h:Agree x.tmps ts ts'):x.ev ts=x.ev ts':=by
 cases x with
 | tmp t=>exact h t (by simp[AOpd.tmps])
 | const v=>rfl
theorem x0f {ts ts':Tmps} {x:Option AOpd} (h:Agree (y8w x) ts ts'):x.map (·.ev ts)=x.map (·.ev ts'):=by
 cases x with
 | none=>rfl
 | some x=>simp only[Option.map_some,z0r (x:=x) h]
theorem x0g {ts ts':Tmps} {xs:List AOpd} (h:Agree (xs.flatMap AOpd.tmps) ts ts'):xs.map (·.ev ts)=xs.map (·.ev ts'):=
 List.map_congr_left fun x hx=>z0r fun t ht=>h t (List.mem_flatMap.2 ⟨x,hx,ht⟩)
theorem x0h {α:Type} {ts ts':Tmps} {xs:List α} {g:α→AOpd} (h:Agree (xs.flatMap fun p=>(g p).tmps) ts ts') (x:α) (hx:x∈xs):(g x).ev ts=(g x).ev ts':=
 z0r fun t ht=>h t (List.mem_flatMap.2 ⟨x,hx,ht⟩)
theorem j8w {h:List AObj} {base gen:Nat} {ts ts':Tmps} {op:AOp} (hr:Agree op.reads ts ts'):prim h base gen ts op=prim h base gen ts' op:=by
 cases op <;> simp only[AOp.reads] at hr
 case move x=>simp only[prim,z0r hr]
 case box k x=>simp only[prim,z0r hr]
 case load sz x=>simp only[prim,z0r hr]
 case nilCheck x=>simp only[prim,z0r hr]
 case unOp o x=>simp only[prim,z0r hr]
 case cInt k x=>simp only[prim,z0r hr]
 case cStr x=>simp only[prim,z0r hr]
 case toBytes x=>simp only[prim,z0r hr]
 case ofBytes x=>simp only[prim,z0r hr]
 case fieldAddr x o=>simp only[prim,z0r hr]
 case field x o s=>simp only[prim,z0r hr]
 case extract x i=>simp only[prim,z0r hr]
 case len t x=>simp only[prim,z0r hr]
 case backward f x=>simp only[prim,z0r hr]
 case pick c a b=>
  have h1:=z0r hr.left.left
  have h2:=z0r hr.left.right
  have h3:=z0r hr.right
  simp only[prim,h1]
  split
  ·rename_i t _
   cases t <;> simp[h2,h3]
  ·rfl
 case alloc=>rfl
 case makeMap=>rfl
 case bad=>rfl
 case build z ps=>
  simp only[prim]
  rw[List.map_congr_left (f:=fun p:Nat×Nat×AOpd=>(p.1,p.2.1,p.2.2.ev ts)) (g:=fun p=>(p.1,p.2.1,p.2.2.ev ts')) fun p hp=>by rw[x0h hr p hp]]
 case buildSlice k mu z n ps=>
  simp only[prim]
  rw[List.map_congr_left (f:=fun p:Nat×AOpd=>p.2.ev ts) (g:=fun p=>p.2.ev ts') fun p hp=>by rw[x0h hr p hp]]
 case store s a x=>simp only[prim,z0r hr.left,z0r hr.right]
 case binOp o t x y=>simp only[prim,z0r hr.left,z0r hr.right]
 case lookup t z x ix ok=>simp only[prim,z0r hr.left,z0r hr.right]
 case mapUpdate t m k v=>simp only[prim,z0r hr.left.left,z0r hr.left.right,z0r hr.right]
 case makeSlice k z b l c=>simp only[prim,z0r hr.left,z0r hr.right]
 case makeRow k z b l c=>simp only[prim,z0r hr.left,z0r hr.right]
 case slice e x lo hi mx=>simp only[prim,z0r hr.left.left.left,x0f hr.left.left.right,x0f hr.left.right,x0f hr.right]
 case indexAddr a e x ix=>simp only[prim,z0r hr.left,z0r hr.right]
 case index a x ix=>simp only[prim,z0r hr.left,z0r hr.right]
 case makeFunc f cap=>simp only[prim,x0g hr]
 case minmax m x y=>simp only[prim,z0r hr.left,z0r hr.right]
 case append k e b mu x y=>simp only[prim,z0r hr.left,z0r hr.right]
 case call=>rfl
 case callv=>rfl
theorem j2g {base:Nat} {ts ts':Tmps} {op:AOp} (hp:op.isCall=false) (hr:Agree op.reads ts ts'):z3l base ts op=z3l base ts' op:=by
 cases op <;> simp only[AOp.reads] at hr <;> simp only[z3l,foot]
 case load sz x=>rw[z0r hr]
 case store s a x=>rw[z0r hr.left,z0r hr.right]
 case buildSlice k mu z n ps=>rw[List.map_congr_left (f:=fun p:Nat×AOpd=>p.2.ev ts) (g:=fun p=>p.2.ev ts') fun p hp=>by rw[x0h hr p hp]]
 case ofBytes x=>rw[z0r hr]
 case lookup t z x ix ok=>rw[z0r hr.left]
 case mapUpdate t m k v=>rw[z0r hr.left.left,z0r hr.right]
 case slice e x lo hi mx=>rw[z0r hr.left.left.left]
 case indexAddr a e x ix=>rw[z0r hr.left]
 case len t x=>rw[z0r hr]
 case append k e b mu x y=>rw[z0r hr.left,z0r hr.right]
 case call=>simp[AOp.isCall] at hp
 case callv=>simp[AOp.isCall] at hp
inductive Todo where
 | prim (op:AOp)
 | call (f:Nat) (args:List AV)
def Todo.isCall:Todo→Bool
 | .prim _=>false
 | .call .. =>true
def y8y:AOp:= .move (.const (.tup []))
def q2e (ts:Tmps):AOp→Option Todo
 | .call f args=>some (.call f (args.map (·.ev ts)))
 | .callv x args=>match x.ev ts with
   | .fn f cap=>some (.call f (args.map (·.ev ts)++cap))
   | _=>none
 | op=>some (.prim op)
def z9o (ts:Tmps) (o:AOper):Option Todo:=
 match z6b ts o.guard with
 | some true=>q2e ts o.op
 | some false=>some (.prim y8y)
 | none=>none
def doT (C:Caller) (base gen:Nat) (ts:Tmps) (h:List AObj) (clk:Nat):Todo→Option (AV×List AObj×Nat)
 | .prim op=>(Am.prim h base gen ts op).map fun r=>(r.1,r.2,clk)
 | .call f args=>C f args h clk
def q4r (Γ:AProg) (base:Nat) (ts:Tmps) (h h':List AObj):Todo→List Nat×List Nat
 | .prim op=>z3l base ts op
 | .call f args=>z3r (z1a Γ f args h) h h'
def footOfK (Γ:AProg) (base:Nat) (o:AOper) (s s':St):List Nat×List Nat:=
 if z6b s.ts o.guard=some true then foot Γ s.h s'.h base s.ts o.op else ([],[])
theorem q0r {C:Caller} {base gen:Nat} {o:AOper} {s s':St} (hs:stepA C base gen o s=some s'):
  ∃ t v h c,z9o s.ts o=some t∧doT C base gen s.ts s.h s.clk t=some (v,h,c)∧s'=⟨z9n s.ts o.dst v,h,c⟩∧∀ Γ,footOfK Γ base o s s'=q4r Γ base s.ts s.h h t:=by
 unfold stepA at hs
 unfold z9o footOfK
 split at hs
 ·rename_i hw
  simp only[hw]
  obtain⟨dst,op,guard⟩:=o
  cases op
  case call f args=>
   simp only at hs
   split at hs
   ·rename_i v h c hc
    simp only[Option.some.injEq] at hs
    subst hs
    exact⟨_,v,h,c,rfl,hc,rfl,fun Γ=>rfl⟩
   ·simp at hs
  case callv x args=>
   simp only at hs
   split at hs
   ·rename_i f cap hx
    split at hs
    ·rename_i v h c hc
     simp only[Option.some.injEq] at hs
     subst hs
     refine⟨.call f (args.map (·.ev s.ts)++cap),v,h,c,by simp only[q2e,hx],hc,rfl,fun Γ=> ?_⟩
     simp only[foot,hx,q4r,if_true]
    ·simp at hs
   ·simp at hs
  all_goals
   simp only at hs
   split at hs
   ·rename_i v h hc
    simp only[Option.some.injEq] at hs
    subst hs
    exact⟨_,v,h,s.clk,rfl,by simp only[doT,hc,Option.map_some],rfl,fun Γ=>rfl⟩
   ·simp at hs
 ·rename_i hw
  simp only[Option.some.injEq] at hs
  subst hs
  exact⟨.prim y8y, .tup [],s.h,s.clk,by simp only[hw],rfl,rfl,fun Γ=>by rw[if_neg (by simp[hw])];rfl⟩
 ·simp at hs
theorem j5d {C:Caller} {base gen:Nat} {o:AOper} {s:St} {t:Todo} {v:AV} {h:List AObj} {c:Nat} (ht:z9o s.ts o=some t) (hd:doT C base gen s.ts s.h s.clk t=some (v,h,c)):
  stepA C base gen o s=some ⟨z9n s.ts o.dst v,h,c⟩:=by
 unfold z9o at ht
 unfold stepA
 split at ht
 ·rename_i hw
  simp only[hw]
  obtain⟨dst,op,guard⟩:=o
  cases op
  case call f args=>
   simp only[q2e,Option.some.injEq] at ht
   subst ht
   simp only[doT] at hd
   simp only[hd]
  case callv x args=>
   simp only[q2e] at ht
   split at ht
   ·rename_i f cap hx
    simp only[Option.some.injEq] at ht
    subst ht
    simp only[doT] at hd
    simp only[hx,hd]
   ·simp at ht
  all_goals
   simp only[q2e,Option.some.injEq] at ht
   subst ht
   simp only[doT,Option.map_eq_some_iff,Prod.mk.injEq] at hd
   obtain⟨⟨v',h'⟩,hp,rfl,rfl,rfl⟩:=hd
   simp only[hp]
 ·rename_i hw
  simp only[Option.some.injEq] at ht
  subst ht
  simp only[doT,y8y,prim,AOpd.ev,Option.map_some,Option.some.injEq,Prod.mk.injEq] at hd
  obtain⟨rfl,rfl,rfl⟩:=hd
  simp only[hw]
 ·simp at ht
theorem z9y {ts:Tmps} {o:AOper} {t:Todo} (ht:z9o ts o=some t) (hc:o.op.isCall=false):t.isCall=false:=by
 unfold z9o at ht
 split at ht
 ·obtain⟨dst,op,guard⟩:=o
  cases op <;> simp[AOp.isCall] at hc <;> (simp only[q2e,Option.some.injEq] at ht;subst ht;rfl)
 ·simp only[Option.some.injEq] at ht
  subst ht
  rfl
 ·simp at ht
theorem x9c {ts:Tmps} {o:AOper} {op:AOp} (ht:z9o ts o=some (.prim op)):(op=o.op∨op=y8y)∧op.isCall=false:=by
 unfold z9o at ht
 split at ht
 ·obtain⟨dst,op',guard⟩:=o
  cases op'
  case callv x args=>
   simp only[q2e] at ht
   split at ht <;> simp at ht
  case call x args=>simp[q2e] at ht
  all_goals
   simp only[q2e,Option.some.injEq,Todo.prim.injEq] at ht
   subst ht
   exact⟨.inl rfl,rfl⟩
 ·simp only[Option.some.injEq,Todo.prim.injEq] at ht
  subst ht
  exact⟨.inr rfl,rfl⟩
 ·simp at ht
theorem x5s {ts ts':Tmps} {o:AOper} (h:Agree o.reads ts ts'):z6b ts o.guard=z6b ts' o.guard:=by
 unfold z6b
 cases hg:o.guard with
 | none=>rfl
 | some g=>
   obtain⟨t,b⟩:=g
   have:ts t=ts' t:=h t (by simp[AOper.reads,hg])
   simp only[this]
theorem x9d {ts ts':Tmps} {op:AOp} (h:Agree op.reads ts ts'):q2e ts op=q2e ts' op:=by
 cases op <;> simp only[AOp.reads] at h <;> simp only[q2e]
 case call f args=>rw[x0g h]
 case callv x args=>rw[z0r h.left,x0g h.right]
theorem x3s {ts ts':Tmps} {o:AOper} (h:Agree o.reads ts ts'):z9o ts o=z9o ts' o:=by
 unfold z9o
 rw[x5s h,x9d (h.left)]
theorem x9e {C:Caller} {base gen clk:Nat} {ts ts':Tmps} {o:AOper} {t:Todo} {h:List AObj} (hr:Agree o.reads ts ts') (ht:z9o ts o=some t):doT C base gen ts h clk t=doT C base gen ts' h clk t:=by
 cases t with
 | call f args=>rfl
 | prim op=>
   simp only[doT]
   rcases (x9c ht).1 with rfl | rfl
   ·rw[j8w hr.left]
   ·rfl
theorem q1o {Γ:AProg} {base:Nat} {ts ts':Tmps} {o:AOper} {t:Todo} {h h':List AObj} (hr:Agree o.reads ts ts') (ht:z9o ts o=some t):q4r Γ base ts h h' t=q4r Γ base ts' h h' t:=by
 cases t with
 | call f args=>rfl
 | prim op=>
   simp only[q4r]
   obtain⟨h1,h2⟩:=x9c ht
   rcases h1 with rfl | rfl
   ·exact j2g h2 hr.left
   ·rfl
end Go.Proofs.YtkollgjffkdliaaGreatDoor.Am
