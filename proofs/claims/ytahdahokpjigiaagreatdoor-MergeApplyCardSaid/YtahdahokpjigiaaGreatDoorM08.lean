/- Equality of the abstract machine's objects, as it is computed What a call of the abstract machine looks at, and what it leaves A call of the abstract machine in two heaps that agree on what it looks a -/
import Derived.Orders
import Derived.Test.YtahdahokpjigiaaGreatDoorM07
set_option linter.all false
namespace Go.Proofs.YtahdahokpjigiaaGreatDoor.Am
open Go
set_option maxRecDepth 100000
mutual
theorem beq_sound:∀ {a b:AV},a.beq b=true→a=b
 | .undef,b,h=>by cases b <;> simp[AV.beq] at h⊢
 | .int ..,b,h=>by cases b <;> simp[AV.beq] at h⊢;exact h
 | .bool _,b,h=>by cases b <;> simp[AV.beq] at h⊢;exact h
 | .str _,b,h=>by cases b <;> simp[AV.beq] at h⊢;exact h
 | .agg _,b,h=>by cases b <;> simp[AV.beq] at h⊢;exact z6p h
 | .tup _,b,h=>by cases b <;> simp[AV.beq] at h⊢;exact z6p h
 | .sl _ _,b,h=>by cases b <;> simp[AV.beq] at h⊢;exact⟨z6p h.1,h.2⟩
 | .ob ..,b,h=>by cases b <;> simp[AV.beq] at h⊢;simp[h]
 | .ptr ..,b,h=>by cases b <;> simp[AV.beq] at h⊢;simp[h]
 | .iptr _ _,b,h=>by cases b <;> simp[AV.beq] at h⊢;exact⟨z6p h.1,h.2⟩
 | .nilptr,b,h=>by cases b <;> simp[AV.beq] at h⊢
 | .mp ..,b,h=>by cases b <;> simp[AV.beq] at h⊢;simp[h]
 | .nilmap,b,h=>by cases b <;> simp[AV.beq] at h⊢
 | .fn _ _,b,h=>by cases b <;> simp[AV.beq] at h⊢;exact⟨h.1,z6p h.2⟩
 | .nilfn,b,h=>by cases b <;> simp[AV.beq] at h⊢
 | .nilif,b,h=>by cases b <;> simp[AV.beq] at h⊢
 | .bwd _ _,b,h=>by cases b <;> simp[AV.beq] at h⊢;exact⟨h.1,beq_sound h.2⟩
theorem z6p:∀ {a b:List AV},j4s a b=true→a=b
 | [],b,h=>by cases b <;> simp[j4s] at h⊢
 | x::xs,b,h=>by cases b <;> simp[j4s] at h⊢;exact⟨beq_sound h.1,z6p h.2⟩
end
theorem x1z:∀ {a b:List (AV×AV)},k9f a b=true→a=b
 | [],b,h=>by cases b <;> simp[k9f] at h⊢
 | x::xs,b,h=>by
   cases b with
   | nil=>simp[k9f] at h
   | cons y ys=>
     simp only[k9f,Bool.and_eq_true] at h
     rw[x1z h.2,Prod.ext (beq_sound h.1.1) (beq_sound h.1.2)]
theorem AObj.beq_sound {a b:AObj} (h:a.beq b=true):a=b:=by
 cases a <;> cases b <;> simp[AObj.beq] at h⊢
 ·obtain⟨⟨⟨⟨h1,h2⟩,h3⟩,h4⟩,h5⟩:=h
  exact⟨h1,z6p h2,h3,h4,h5⟩
 ·exact h
 ·exact⟨h.1,x1z h.2⟩
theorem q8p {h:List AObj}:∀ (n:Nat) (seen z9g:List Nat) (s:Nat),s∈seen→s∈reach h n seen z9g
 | 0,seen,z9g,s,hs=>by simp[reach,hs]
 | n + 1,seen,[],s,hs=>by simpa [reach] using hs
 | n + 1,seen,t::z9g,s,hs=>by
   simp only[reach]
   split
   ·exact q8p n seen z9g s hs
   ·exact q8p n _ _ s (List.mem_cons_of_mem _ hs)
theorem q2r {h k:List AObj}:∀ (n:Nat) (seen z9g:List Nat),Same (reach h n seen z9g) h k→reach k n seen z9g=reach h n seen z9g
 | 0,seen,z9g,_=>rfl
 | n + 1,seen,[],_=>rfl
 | n + 1,seen,t::z9g,hs=>by
   simp only[reach] at hs⊢
   split
   ·rename_i hc
    rw[if_pos hc] at hs
    exact q2r n seen z9g hs
   ·rename_i hc
    rw[if_neg hc] at hs
    have ht:h[t]? =k[t]? :=hs t (q8p n _ _ t (List.mem_cons_self))
    rw[←ht]
    exact q2r n _ _ hs
theorem z8a {h k:List AObj} {byref:List Nat}:∀ {args:List AV} {i:Nat},Same ((z4k args).map (·.1)) h k→z1n h byref i args=z1n k byref i args
 | [],_,_=>rfl
 | v::vs,i,hs=>by
   simp only[z1n]
   rw[q8o (v:=v) (fun s hm=>hs s (by simp only[z4k,List.map_append,List.mem_append];exact .inl hm)),z8a (args:=vs) (fun s hm=>hs s (by simp only[z4k,List.map_append,List.mem_append];exact .inr hm))]
theorem q4l {T:List Nat}:∀ {h h':List AObj} {k i:Nat},(z0r T k h h')[i]? =match h[i]? with
  | none=>none
  | some o=>match h'[i]? with
    | none=>some o
    | some o'=>some (if T.contains (k + i) then o' else o)
 | [],h',k,i=>by cases h' <;> simp[z0r]
 | o::h,[],k,i=>by
   simp only[z0r,List.getElem?_nil]
   cases (o::h)[i]? <;> rfl
 | o::h,o'::h',k,i=>by
   cases i with
   | zero=>simp[z0r]
   | succ i=>
     simp only[z0r,List.getElem?_cons_succ,q4l]
     rw[show k + 1 + i=k + (i + 1) by omega]
theorem z1w {T:List Nat}:∀ {h h':List AObj} {k:Nat},(z0r T k h h').length=h.length
 | [],h',_=>by cases h' <;> rfl
 | o::h,[],_=>rfl
 | o::h,o'::h',k=>by simp[z0r,z1w (h:=h) (h':=h')]
theorem j8m {T:List Nat} {h k:List AObj} (hl:k.length=h.length) (hs:Same T h k):maskFrom T 0 h=maskFrom T 0 k:=by
 apply List.ext_getElem?
 intro i
 rw[z9m,z9m,Nat.zero_add]
 by_cases ht:T.contains i=true
 ·rw[hs i (by simpa using ht)]
 ·have ht:T.contains i=false:=by simpa using ht
  simp only[ht,Bool.false_eq_true,if_false]
  by_cases hi:i < h.length
  ·rw[List.getElem?_eq_getElem hi,List.getElem?_eq_getElem (show i < k.length by omega)]
   rfl
  ·rw[List.getElem?_eq_none (by omega),List.getElem?_eq_none (show k.length≤i by omega)]
structure Alike (n:Nat) (h k h1 k1:List AObj):Prop where
 len:k1.length=h1.length
 new:∀ s,n≤s→k1[s]? =h1[s]?
 old:∀ s,s < n→h[s]? =k[s]? →h1[s]? =k1[s]?
theorem Alike.merge {T:List Nat} {h k h0 k0 hr:List AObj} (hl:k.length=h.length) (hl1:k0.length=h.length) (hl2:h0.length=h.length) (hp:∀ (s:Nat),h[s]? =k[s]? →h0[s]? =k0[s]?):Alike h.length h k (z0r T 0 h0 hr) (z0r T 0 k0 hr)∧Alike h.length h k (z0r T 0 h0 hr++hr.drop h.length) (z0r T 0 k0 hr++hr.drop k.length):=by
 have hget:∀ s,h[s]? =k[s]? →(z0r T 0 h0 hr)[s]? =(z0r T 0 k0 hr)[s]? :=fun s he=>by
  rw[q4l,q4l,hp s he]
 refine⟨⟨by rw[z1w,z1w];omega,fun s hs=> ?_,fun s _ he=>hget s he⟩,⟨by simp[z1w];omega,fun s hs=> ?_,fun s hs he=> ?_⟩⟩
 ·rw[List.getElem?_eq_none (by rw[z1w];omega),List.getElem?_eq_none (by rw[z1w];omega)]
 ·rw[List.getElem?_append_right (by rw[z1w];omega),List.getElem?_append_right (by rw[z1w];omega),z1w,z1w,hl,hl1,hl2]
 ·rw[List.getElem?_append_left (by rw[z1w];omega),List.getElem?_append_left (by rw[z1w];omega)]
  exact hget s he
theorem x6n {R:Nat→ACode→St→Option (AEx×St)} {Γ:AProg} {f:Nat} {args:List AV} {h k h1:List AObj} {clk c:Nat} {v:AV} (hl:k.length=h.length) (hs:Same (z0v Γ f args h) h k)
  (hr:z0k R Γ f args h clk=some (v,h1,c)):∃ k1,z0k R Γ f args k clk=some (v,k1,c)∧Alike h.length h k h1 k1:=by
 have hobs:Same ((z4k args).map (·.1)) h k:=fun s hm=>hs s (by simp only[z0v,List.mem_append];exact .inl hm)
 unfold z0k at hr⊢
 cases hext:Γ.ext f with
 | some sem=>
   simp only[hext] at hr⊢
   rw[←z8a hobs]
   split at hr
   ·rename_i asx hpass
    split at hr
    ·rename_i hlent
     rw[if_pos hlent]
     simp only[Option.map_eq_some_iff,Prod.mk.injEq] at hr⊢
     obtain⟨v0,h2,rfl,rfl,rfl⟩:=hr
     exact⟨k,⟨v0,h2,rfl,rfl,rfl⟩,⟨hl,fun s hge=>by rw[List.getElem?_eq_none (by omega),List.getElem?_eq_none (by omega)],fun s _ he=>he⟩⟩
    ·simp at hr
   ·simp at hr
 | none=>
   simp only[hext] at hr⊢
   cases hfn:Γ.fn f with
   | none=>simp[hfn] at hr
   | some af=>
     simp only[hfn] at hr⊢
     rw[←z8a hobs]
     cases hpass:z1n h af.byref 0 args with
     | none=>simp[hpass] at hr
     | some asx=>
       simp only[hpass] at hr⊢
       have hT:Same (reach h (h.length + 1) [] (idsL asx)) h k:=fun s hm=>hs s (by simp only[z0v,hext,hfn,hpass,List.mem_append];exact .inr hm)
       have hreach:reach k (k.length + 1) [] (idsL asx)=reach h (h.length + 1) [] (idsL asx):=by rw[hl];exact q2r _ _ _ hT
       have hfs:=hT.freezeAll (z0s af.byref 0 args)
       have hmask:=j8m (by rw[z2t,z2t];exact hl) hfs
       rw[hreach,←hmask,hl]
       have hfl:=z2t (z0s af.byref 0 args) h
       have hfk:=z2t (z0s af.byref 0 args) k
       have hpt:∀ (s:Nat),h[s]? =k[s]? →(freezeAll h (z0s af.byref 0 args))[s]? =(freezeAll k (z0s af.byref 0 args))[s]? :=fun s he=>
        (Same.freezeAll (S:=[s]) (fun q hq=>by simp at hq;subst hq;exact he) _) s (by simp)
       generalize freezeAll h (z0s af.byref 0 args)=hf at *
       generalize freezeAll k (z0s af.byref 0 args)=kf at *
       generalize reach h (h.length + 1) [] (idsL asx)=T at *
       split at hr
       ·simp at hr
       ·simp at hr
       ·rename_i e s hno hx
        split at hr
        ·simp at hr
        ·rename_i vs hvs
         split at hr
         ·simp at hr
         ·rename_i v0 hconv
          generalize (if af.owned=true then s.h else freezeAll s.h (z1k vs).obs)=hrr at *
          have key:∀ h0 k0:List AObj,k0.length=h.length→h0.length=h.length→(∀ (s:Nat),h[s]? =k[s]? →h0[s]? =k0[s]?)→
           (if ((v0.ids++(T.map fun i=>((hrr[i]?).map AObj.ids).getD []).flatten).all (· < h.length))=true then some (v0,z0r T 0 h0 hrr,clk) else some (v0,z0r T 0 h0 hrr++hrr.drop h.length,s.clk))=some (v,h1,c)→
           ∃ k1,(if ((v0.ids++(T.map fun i=>((hrr[i]?).map AObj.ids).getD []).flatten).all (· < h.length))=true then some (v0,z0r T 0 k0 hrr,clk) else some (v0,z0r T 0 k0 hrr++hrr.drop h.length,s.clk))=some (v,k1,c)∧Alike h.length h k h1 k1:=by
           intro h0 k0 g1 g2 g3 hq
           obtain⟨a1,a2⟩:=Alike.merge (T:=T) (hr:=hrr) hl g1 g2 g3
           split at hq
           ·rename_i hc
            rw[if_pos hc]
            simp only[Option.some.injEq,Prod.mk.injEq] at hq
            obtain⟨rfl,rfl,rfl⟩:=hq
            exact⟨_,rfl,a1⟩
           ·rename_i hc
            rw[if_neg hc]
            simp only[Option.some.injEq,Prod.mk.injEq] at hq
            obtain⟨rfl,rfl,rfl⟩:=hq
            rw[hl] at a2
            exact⟨_,rfl,a2⟩
          by_cases hflat:(v0.flat && T.isEmpty)=true
          ·simp only[if_pos hflat] at hr⊢
           exact key h k hl rfl (fun _ he=>he) hr
          ·simp only[if_neg hflat] at hr⊢
           exact key hf kf (by rw[hfk,hl]) hfl hpt hr
theorem q4m {byref:List Nat}:∀ {args:List AV} {i:Nat} {x:Nat×Nat},x∈z0s byref i args→x∈z4k args
 | [],_,_,h=>by simp[z0s] at h
 | v::vs,i,x,h=>by
   simp only[z0s,List.mem_append] at h
   simp only[z4k,List.mem_append]
   rcases h with h | h
   ·split at h
    ·simp at h
    ·exact .inl h
   ·exact .inr (q4m h)
theorem q4n {Γ:AProg} {f:Nat} {args:List AV} {h k:List AObj} (hl:k.length=h.length) (hs:Same (z0v Γ f args h) h k):z0v Γ f args k=z0v Γ f args h:=by
 have hobs:Same ((z4k args).map (·.1)) h k:=fun s hm=>hs s (by simp only[z0v,List.mem_append];exact .inl hm)
 unfold z0v at hs⊢
 cases hext:Γ.ext f with
 | some sem=>rfl
 | none=>
   simp only[hext] at hs⊢
   cases hfn:Γ.fn f with
   | none=>rfl
   | some af=>
     simp only[hfn] at hs⊢
     rw[←z8a hobs]
     cases hpass:z1n h af.byref 0 args with
     | none=>rfl
     | some asx=>
       simp only[hpass] at hs⊢
       rw[hl,q2r _ _ _ fun s hm=>hs s (List.mem_append_right _ hm)]
theorem q2s {R:Nat→ACode→St→Option (AEx×St)} {Γ:AProg} {f:Nat} {args:List AV} {h h1:List AObj} {clk c:Nat} {v:AV}
  (hr:z0k R Γ f args h clk=some (v,h1,c)):h.length≤h1.length∧∀ s,s < h.length→s∉z0v Γ f args h→h1[s]? =h[s]? :=by
 unfold z0k at hr
 unfold z0v
 cases hext:Γ.ext f with
 | some sem=>
   simp only[hext] at hr
   split at hr
   ·split at hr
    ·simp only[Option.map_eq_some_iff,Prod.mk.injEq] at hr
     obtain⟨v0,h2,rfl,rfl,rfl⟩:=hr
     exact⟨Nat.le_refl _,fun _ _ _=>rfl⟩
    ·simp at hr
   ·simp at hr
 | none=>
   simp only[hext] at hr⊢
   cases hfn:Γ.fn f with
   | none=>simp[hfn] at hr
   | some af=>
     simp only[hfn] at hr⊢
     cases hpass:z1n h af.byref 0 args with
     | none=>simp[hpass] at hr
     | some asx=>
       simp only[hpass] at hr⊢
       have hfl:=z2t (z0s af.byref 0 args) h
       have hfo:∀ s,s∉(z4k args).map (·.1)→(freezeAll h (z0s af.byref 0 args))[s]? =h[s]? :=fun s hn=>
        z5p _ _ fun hm=>hn (by
         obtain⟨x,hx,rfl⟩:=List.mem_map.1 hm
         exact List.mem_map.2 ⟨x,q4m hx,rfl⟩)
       generalize freezeAll h (z0s af.byref 0 args)=hf at *
       generalize reach h (h.length + 1) [] (idsL asx)=T at *
       split at hr
       ·simp at hr
       ·simp at hr
       ·rename_i e s hno hx
        split at hr
        ·simp at hr
        ·rename_i vs hvs
         split at hr
         ·simp at hr
         ·rename_i v0 hconv
          generalize (if af.owned=true then s.h else freezeAll s.h (z1k vs).obs)=hrr at *
          have hpre:∃ h0:List AObj,(if (v0.flat && T.isEmpty)=true then h else hf)=h0∧h0.length=h.length∧∀ s,s∉(z4k args).map (·.1)→h0[s]? =h[s]? :=by
           refine⟨_,rfl, ?_, ?_⟩
           ·split
            ·rfl
            ·exact hfl
           ·intro s hn
            split
            ·rfl
            ·exact hfo s hn
          obtain⟨h0,he,h0l,h0o⟩:=hpre
          rw[he] at hr
          have key:∀ s,s < h.length→s∉(z4k args).map (·.1)++T→(z0r T 0 h0 hrr)[s]? =h[s]? :=fun s hs hn=>by
           simp only[List.mem_append,not_or] at hn
           rw[q4l,h0o s hn.1,List.getElem?_eq_getElem hs]
           simp only
           split
           ·rfl
           ·rw[if_neg (by simpa using hn.2)]
          split at hr
          ·simp only[Option.some.injEq,Prod.mk.injEq] at hr
           obtain⟨rfl,rfl,rfl⟩:=hr
           exact⟨by rw[z1w,h0l];exact Nat.le_refl _,key⟩
          ·simp only[Option.some.injEq,Prod.mk.injEq] at hr
           obtain⟨rfl,rfl,rfl⟩:=hr
           refine⟨by rw[List.length_append,z1w,h0l];omega,fun s hs hn=> ?_⟩
           rw[List.getElem?_append_left (by rw[z1w,h0l];exact hs)]
           exact key s hs hn
theorem q3o {F:List Nat} {h h1:List AObj} {s:Nat} (hs:s < h.length) (hl:h.length≤h1.length) (ho:s∉F→h1[s]? =h[s]?) (hn:s∉(z3p F h h1).2):h1[s]? =h[s]? :=by
 by_cases hF:s∈F
 ·simp only[z3p,List.mem_filter,hF,true_and,Bool.not_eq_eq_eq_not,Bool.not_true,Bool.not_eq_false] at hn
  have:=AObj.beq_sound hn
  simp only[List.getD,List.getElem?_eq_getElem hs,List.getElem?_eq_getElem (show s < h1.length by omega),Option.getD_some] at this
  rw[List.getElem?_eq_getElem hs,List.getElem?_eq_getElem (show s < h1.length by omega),this]
 ·exact ho hF
theorem q6t {F:List Nat} {h h1 k k1:List AObj} (h0:∀ s∈F,k[s]? =h[s]?) (h2:∀ s∈F,k1[s]? =h1[s]?):z3p F k k1=z3p F h h1:=by
 unfold z3p
 congr 1
 apply List.filter_congr
 intro s hs
 simp only[List.getD,h0 s hs,h2 s hs]
def Agree (l:List Nat) (ts ts':Tmps):Prop:=∀ t∈l,ts t=ts' t
theorem Agree.left {a b:List Nat} {ts ts':Tmps} (h:Agree (a++b) ts ts'):Agree a ts ts':=fun t ht=>h t (List.mem_append_left _ ht)
theorem Agree.right {a b:List Nat} {ts ts':Tmps} (h:Agree (a++b) ts ts'):Agree b ts ts':=fun t ht=>h t (List.mem_append_right _ ht)
theorem z0p {ts ts':Tmps} {x:AOpd} (h:Agree x.tmps ts ts'):x.ev ts=x.ev ts':=by
 cases x with
 | tmp t=>exact h t (by simp[AOpd.tmps])
 | const v=>rfl
theorem q8q {ts ts':Tmps} {x:Option AOpd} (h:Agree (y1o x) ts ts'):x.map (·.ev ts)=x.map (·.ev ts'):=by
 cases x with
 | none=>rfl
 | some x=>simp only[Option.map_some,z0p (x:=x) h]
theorem q8r {ts ts':Tmps} {xs:List AOpd} (h:Agree (xs.flatMap AOpd.tmps) ts ts'):xs.map (·.ev ts)=xs.map (·.ev ts'):=
 List.map_congr_left fun x hx=>z0p fun t ht=>h t (List.mem_flatMap.2 ⟨x,hx,ht⟩)
theorem q8s {α:Type} {ts ts':Tmps} {xs:List α} {g:α→AOpd} (h:Agree (xs.flatMap fun p=>(g p).tmps) ts ts') (x:α) (hx:x∈xs):(g x).ev ts=(g x).ev ts':=
 z0p fun t ht=>h t (List.mem_flatMap.2 ⟨x,hx,ht⟩)
theorem j5l {h:List AObj} {base gen:Nat} {ts ts':Tmps} {op:AOp} (hr:Agree op.reads ts ts'):prim h base gen ts op=prim h base gen ts' op:=by
 cases op <;> simp only[AOp.reads] at hr
 case move x=>simp only[prim,z0p hr]
 case box k x=>simp only[prim,z0p hr]
 case load sz x=>simp only[prim,z0p hr]
 case nilCheck x=>simp only[prim,z0p hr]
 case unOp o x=>simp only[prim,z0p hr]
 case cInt k x=>simp only[prim,z0p hr]
 case cStr x=>simp only[prim,z0p hr]
 case toBytes x=>simp only[prim,z0p hr]
 case ofBytes x=>simp only[prim,z0p hr]
 case fieldAddr x o=>simp only[prim,z0p hr]
 case field x o s=>simp only[prim,z0p hr]
 case extract x i=>simp only[prim,z0p hr]
 case len t x=>simp only[prim,z0p hr]
 case backward f x=>simp only[prim,z0p hr]
 case pick c a b=>
  have h1:=z0p hr.left.left
  have h2:=z0p hr.left.right
  have h3:=z0p hr.right
  simp only[prim,h1]
  split
  ·rename_i t _
   cases t <;> simp[h2,h3]
  ·rfl
 case alloc=>rfl
 case makeMap=>rfl
 case bad=>rfl
 case build z ps=>
  simp only[prim]
  rw[List.map_congr_left (f:=fun p:Nat×Nat×AOpd=>(p.1,p.2.1,p.2.2.ev ts)) (g:=fun p=>(p.1,p.2.1,p.2.2.ev ts')) fun p hp=>by rw[q8s hr p hp]]
 case buildSlice k mu z n ps=>
  simp only[prim]
  rw[List.map_congr_left (f:=fun p:Nat×AOpd=>p.2.ev ts) (g:=fun p=>p.2.ev ts') fun p hp=>by rw[q8s hr p hp]]
 case store s a x=>simp only[prim,z0p hr.left,z0p hr.right]
 case binOp o t x y=>simp only[prim,z0p hr.left,z0p hr.right]
 case lookup t z x ix ok=>simp only[prim,z0p hr.left,z0p hr.right]
 case mapUpdate t m k v=>simp only[prim,z0p hr.left.left,z0p hr.left.right,z0p hr.right]
 case makeSlice k z b l c=>simp only[prim,z0p hr.left,z0p hr.right]
 case makeRow k z b l c=>simp only[prim,z0p hr.left,z0p hr.right]
 case slice e x lo hi mx=>simp only[prim,z0p hr.left.left.left,q8q hr.left.left.right,q8q hr.left.right,q8q hr.right]
 case indexAddr a e x ix=>simp only[prim,z0p hr.left,z0p hr.right]
 case index a x ix=>simp only[prim,z0p hr.left,z0p hr.right]
 case makeFunc f cap=>simp only[prim,q8r hr]
 case minmax m x y=>simp only[prim,z0p hr.left,z0p hr.right]
 case append k e b mu x y=>simp only[prim,z0p hr.left,z0p hr.right]
 case call=>rfl
 case callv=>rfl
theorem x9j {base:Nat} {ts ts':Tmps} {op:AOp} (hp:op.isCall=false) (hr:Agree op.reads ts ts'):z3k base ts op=z3k base ts' op:=by
 cases op <;> simp only[AOp.reads] at hr <;> simp only[z3k,foot]
 case load sz x=>rw[z0p hr]
 case store s a x=>rw[z0p hr.left,z0p hr.right]
 case buildSlice k mu z n ps=>rw[List.map_congr_left (f:=fun p:Nat×AOpd=>p.2.ev ts) (g:=fun p=>p.2.ev ts') fun p hp=>by rw[q8s hr p hp]]
 case ofBytes x=>rw[z0p hr]
 case lookup t z x ix ok=>rw[z0p hr.left]
 case mapUpdate t m k v=>rw[z0p hr.left.left,z0p hr.right]
 case slice e x lo hi mx=>rw[z0p hr.left.left.left]
 case indexAddr a e x ix=>rw[z0p hr.left]
 case len t x=>rw[z0p hr]
 case append k e b mu x y=>rw[z0p hr.left,z0p hr.right]
 case call=>simp[AOp.isCall] at hp
 case callv=>simp[AOp.isCall] at hp
inductive Todo where
 | prim (op:AOp)
 | call (f:Nat) (args:List AV)
def Todo.isCall:Todo→Bool
 | .prim _=>false
 | .call .. =>true
def y1q:AOp:= .move (.const (.tup []))
def q1l (ts:Tmps):AOp→Option Todo
 | .call f args=>some (.call f (args.map (·.ev ts)))
 | .callv x args=>match x.ev ts with
   | .fn f cap=>some (.call f (args.map (·.ev ts)++cap))
   | _=>none
 | op=>some (.prim op)
def z9g (ts:Tmps) (o:AOper):Option Todo:=
 match z5t ts o.guard with
 | some true=>q1l ts o.op
 | some false=>some (.prim y1q)
 | none=>none
def doT (C:Caller) (base gen:Nat) (ts:Tmps) (h:List AObj) (clk:Nat):Todo→Option (AV×List AObj×Nat)
 | .prim op=>(Am.prim h base gen ts op).map fun r=>(r.1,r.2,clk)
 | .call f args=>C f args h clk
def q3p (Γ:AProg) (base:Nat) (ts:Tmps) (h h':List AObj):Todo→List Nat×List Nat
 | .prim op=>z3k base ts op
 | .call f args=>z3p (z0v Γ f args h) h h'
def footOfK (Γ:AProg) (base:Nat) (o:AOper) (s s':St):List Nat×List Nat:=
 if z5t s.ts o.guard=some true then foot Γ s.h s'.h base s.ts o.op else ([],[])
theorem q0g {C:Caller} {base gen:Nat} {o:AOper} {s s':St} (hs:stepA C base gen o s=some s'):
  ∃ t v h c,z9g s.ts o=some t∧doT C base gen s.ts s.h s.clk t=some (v,h,c)∧s'=⟨z9f s.ts o.dst v,h,c⟩∧∀ Γ,footOfK Γ base o s s'=q3p Γ base s.ts s.h h t:=by
 unfold stepA at hs
 unfold z9g footOfK
 split at hs
 ·rename_i hw
  simp only[hw]
  obtain⟨dst,op,guard⟩:=o
  cases op
  case call f args=>
   simp only at hs
   split at hs
   ·rename_i v h c hc
    simp only[Option.some.injEq] at hs
    subst hs
    exact⟨_,v,h,c,rfl,hc,rfl,fun Γ=>rfl⟩
   ·simp at hs
  case callv x args=>
   simp only at hs
   split at hs
   ·rename_i f cap hx
    split at hs
    ·rename_i v h c hc
     simp only[Option.some.injEq] at hs
     subst hs
     refine⟨.call f (args.map (·.ev s.ts)++cap),v,h,c,by simp only[q1l,hx],hc,rfl,fun Γ=> ?_⟩
     simp only[foot,hx,q3p,if_true]
    ·simp at hs
   ·simp at hs
  all_goals
   simp only at hs
   split at hs
   ·rename_i v h hc
    simp only[Option.some.injEq] at hs
    subst hs
    exact⟨_,v,h,s.clk,rfl,by simp only[doT,hc,Option.map_some],rfl,fun Γ=>rfl⟩
   ·simp at hs
 ·rename_i hw
  simp only[Option.some.injEq] at hs
  subst hs
  exact⟨.prim y1q, .tup [],s.h,s.clk,by simp only[hw],rfl,rfl,fun Γ=>by rw[if_neg (by simp[hw])];rfl⟩
 ·simp at hs
theorem j2f {C:Caller} {base gen:Nat} {o:AOper} {s:St} {t:Todo} {v:AV} {h:List AObj} {c:Nat} (ht:z9g s.ts o=some t) (hd:doT C base gen s.ts s.h s.clk t=some (v,h,c)):
  stepA C base gen o s=some ⟨z9f s.ts o.dst v,h,c⟩:=by
 unfold z9g at ht
 unfold stepA
 split at ht
 ·rename_i hw
  simp only[hw]
  obtain⟨dst,op,guard⟩:=o
  cases op
  case call f args=>
   simp only[q1l,Option.some.injEq] at ht
   subst ht
   simp only[doT] at hd
   simp only[hd]
  case callv x args=>
   simp only[q1l] at ht
   split at ht
   ·rename_i f cap hx
    simp only[Option.some.injEq] at ht
    subst ht
    simp only[doT] at hd
    simp only[hx,hd]
   ·simp at ht
  all_goals
   simp only[q1l,Option.some.injEq] at ht
   subst ht
   simp only[doT,Option.map_eq_some_iff,Prod.mk.injEq] at hd
   obtain⟨⟨v',h'⟩,hp,rfl,rfl,rfl⟩:=hd
   simp only[hp]
 ·rename_i hw
  simp only[Option.some.injEq] at ht
  subst ht
  simp only[doT,y1q,prim,AOpd.ev,Option.map_some,Option.some.injEq,Prod.mk.injEq] at hd
  obtain⟨rfl,rfl,rfl⟩:=hd
  simp only[hw]
 ·simp at ht
theorem z9p {ts:Tmps} {o:AOper} {t:Todo} (ht:z9g ts o=some t) (hc:o.op.isCall=false):t.isCall=false:=by
 unfold z9g at ht
 split at ht
 ·obtain⟨dst,op,guard⟩:=o
  cases op <;> simp[AOp.isCall] at hc <;> (simp only[q1l,Option.some.injEq] at ht;subst ht;rfl)
 ·simp only[Option.some.injEq] at ht
  subst ht
  rfl
 ·simp at ht
theorem x6o {ts:Tmps} {o:AOper} {op:AOp} (ht:z9g ts o=some (.prim op)):(op=o.op∨op=y1q)∧op.isCall=false:=by
 unfold z9g at ht
 split at ht
 ·obtain⟨dst,op',guard⟩:=o
  cases op'
  case callv x args=>
   simp only[q1l] at ht
   split at ht <;> simp at ht
  case call x args=>simp[q1l] at ht
  all_goals
   simp only[q1l,Option.some.injEq,Todo.prim.injEq] at ht
   subst ht
   exact⟨.inl rfl,rfl⟩
 ·simp only[Option.some.injEq,Todo.prim.injEq] at ht
  subst ht
  exact⟨.inr rfl,rfl⟩
 ·simp at ht
theorem x3v {ts ts':Tmps} {o:AOper} (h:Agree o.reads ts ts'):z5t ts o.guard=z5t ts' o.guard:=by
 unfold z5t
 cases hg:o.guard with
 | none=>rfl
 | some g=>
   obtain⟨t,b⟩:=g
   have:ts t=ts' t:=h t (by simp[AOper.reads,hg])
   simp only[this]
theorem x6p {ts ts':Tmps} {op:AOp} (h:Agree op.reads ts ts'):q1l ts op=q1l ts' op:=by
 cases op <;> simp only[AOp.reads] at h <;> simp only[q1l]
 case call f args=>rw[q8r h]
 case callv x args=>rw[z0p h.left,q8r h.right]
theorem x2a {ts ts':Tmps} {o:AOper} (h:Agree o.reads ts ts'):z9g ts o=z9g ts' o:=by
 unfold z9g
 rw[x3v h,x6p (h.left)]
theorem x6q {C:Caller} {base gen clk:Nat} {ts ts':Tmps} {o:AOper} {t:Todo} {h:List AObj} (hr:Agree o.reads ts ts') (ht:z9g ts o=some t):doT C base gen ts h clk t=doT C base gen ts' h clk t:=by
 cases t with
 | call f args=>rfl
 | prim op=>
   simp only[doT]
   rcases (x6o ht).1 with rfl | rfl
   ·rw[j5l hr.left]
   ·rfl
theorem q1b {Γ:AProg} {base:Nat} {ts ts':Tmps} {o:AOper} {t:Todo} {h h':List AObj} (hr:Agree o.reads ts ts') (ht:z9g ts o=some t):q3p Γ base ts h h' t=q3p Γ base ts' h h' t:=by
 cases t with
 | call f args=>rfl
 | prim op=>
   simp only[q3p]
   obtain⟨h1,h2⟩:=x6o ht
   rcases h1 with rfl | rfl
   ·exact x9j h2 hr.left
   ·rfl
section
theorem q1c {a b:List Nat} (h:z0i a b=true) {s:Nat} (ha:s∈a):s∉b:=by
 have:=List.all_eq_true.1 h s ha
 simpa using this
structure Apart (f g:List Nat×List Nat):Prop where
 wr:∀ s∈f.2,s∉g.1
 ww:∀ s∈f.2,s∉g.2
 rw:∀ s∈g.2,s∉f.1
theorem j5m {f g:List Nat×List Nat} (h:apart f g=true):Apart f g:=by
 simp only[apart,Bool.and_eq_true] at h
 exact⟨fun s hs=>q1c h.1.1 hs,fun s hs=>q1c h.1.2 hs,fun s hs=>q1c h.2 hs⟩
section
variable {R:Nat→ACode→St→Option (AEx×St)} {Γ:AProg} {base:Nat} {ts:Tmps}
theorem v2w {h h1 h2:List AObj} {ga gb:Nat} {a b:AOp} {va vb:AV} (ha:prim h base ga ts a=some (va,h1)) (hb:prim h1 base gb ts b=some (vb,h2)) (hp:Apart (z3k base ts a) (z3k base ts b)):
  ∃ k1,prim h base gb ts b=some (vb,k1)∧prim k1 base ga ts a=some (va,h2):=by
 have hoa:=z9o ha
 have hob:=z9o hb
 have s1:Same ((z3k base ts b).1++(z3k base ts b).2) h1 h:=fun s hs=>by
  refine hoa s fun hm=> ?_
  rcases List.mem_append.1 hs with hs | hs
  ·exact hp.wr s hm hs
  ·exact hp.ww s hm hs
 obtain⟨k1,hk1,s2⟩:=q4k s1 (fun s hs=>hs) hb
 have hok:=z9o hk1
 have s3:Same ((z3k base ts a).1++(z3k base ts a).2) h k1:=fun s hs=>by
  refine (hok s fun hm=> ?_).symm
  rcases List.mem_append.1 hs with hs | hs
  ·exact hp.rw s hm hs
  ·exact hp.ww s hs hm
 obtain⟨k2,hk2,s4⟩:=q4k s3 (fun s hs=>hs) ha
 have hoq:=z9o hk2
 refine⟨k1,hk1, ?_⟩
 rw[hk2]
 have:k2=h2:=by
  apply List.ext_getElem?
  intro x
  by_cases hx:x∈(z3k base ts a).2
  ·rw[←s4 x (List.mem_append_right _ hx),hob x (hp.ww x hx)]
  ·rw[hoq x hx]
   by_cases hy:x∈(z3k base ts b).2
   ·rw[←s2 x (List.mem_append_right _ hy)]
   ·rw[hok x hy,hob x hy,hoa x hx]
 rw[this]
theorem v2x {h h1 h2:List AObj} {ga c c2 f:Nat} {args:List AV} {a:AOp} {va vb:AV} (ha:prim h base ga ts a=some (va,h1)) (hb:z0k R Γ f args h1 c=some (vb,h2,c2)) (hp:Apart (z3k base ts a) (z3p (z0v Γ f args h1) h1 h2))
  (hbd:∀ s∈(z3k base ts a).1++(z3k base ts a).2,s < h.length):
  ∃ k1,z0k R Γ f args h c=some (vb,k1,c2)∧prim k1 base ga ts a=some (va,h2)∧z3p (z0v Γ f args h) h k1=z3p (z0v Γ f args h1) h1 h2:=by
 have hoa:=z9o ha
 have hla:=z6j ha
 have s1:Same (z0v Γ f args h1) h1 h:=fun s hs=>hoa s fun hm=>hp.wr s hm hs
 obtain⟨k1,hk1,al⟩:=x6n hla.symm s1 hb
 have hfe:=q4n hla.symm s1
 obtain⟨hl1,hob⟩:=q2s hb
 have hout:∀ s,s < h1.length→s∉(z3p (z0v Γ f args h1) h1 h2).2→h2[s]? =h1[s]? :=fun s hs hn=>q3o hs hl1 (hob s hs) hn
 have hold:∀ s,h1[s]? =h[s]? →h2[s]? =k1[s]? :=fun s he=>by
  by_cases hs:s < h1.length
  ·exact al.old s hs he
  ·exact (al.new s (by omega)).symm
 have hfoot:z3p (z0v Γ f args h) h k1=z3p (z0v Γ f args h1) h1 h2:=by
  rw[hfe]
  exact q6t (fun s hs=>(s1 s hs).symm) (fun s hs=>(hold s (s1 s hs)).symm)
 obtain⟨hl2,hok⟩:=q2s hk1
 rw[hfe] at hok
 have s3:Same ((z3k base ts a).1++(z3k base ts a).2) h k1:=fun s hs=>by
  have hlt:=hbd s hs
  refine (q3o hlt hl2 (hok s hlt) fun hm=> ?_).symm
  rw[←hfe,hfoot] at hm
  rcases List.mem_append.1 hs with hs | hs
  ·exact hp.rw s hm hs
  ·exact hp.ww s hs hm
 obtain⟨k2,hk2,s4⟩:=q4k s3 (fun s hs=>hs) ha
 have hoq:=z9o hk2
 refine⟨k1,hk1, ?_,hfoot⟩
 rw[hk2]
 have:k2=h2:=by
  apply List.ext_getElem?
  intro x
  by_cases hx:x∈(z3k base ts a).2
  ·have hlt:=hbd x (List.mem_append_right _ hx)
   rw[←s4 x (List.mem_append_right _ hx),hout x (by omega) (hp.ww x hx)]
  ·rw[hoq x hx]
   exact (hold x (hoa x hx)).symm
 rw[this]
theorem v2y {h h1 h2:List AObj} {gb c c1 f:Nat} {args:List AV} {b:AOp} {va vb:AV} (ha:z0k R Γ f args h c=some (va,h1,c1)) (hb:prim h1 base gb ts b=some (vb,h2)) (hp:Apart (z3p (z0v Γ f args h) h h1) (z3k base ts b))
  (hbd:∀ s∈(z3k base ts b).1++(z3k base ts b).2,s < h.length):
  ∃ k1,prim h base gb ts b=some (vb,k1)∧z0k R Γ f args k1 c=some (va,h2,c1)∧z3p (z0v Γ f args k1) k1 h2=z3p (z0v Γ f args h) h h1:=by
 obtain⟨hl1,hoa⟩:=q2s ha
 have hout:∀ s,s < h.length→s∉(z3p (z0v Γ f args h) h h1).2→h1[s]? =h[s]? :=fun s hs hn=>q3o hs hl1 (hoa s hs) hn
 have hob:=z9o hb
 have s1:Same ((z3k base ts b).1++(z3k base ts b).2) h1 h:=fun s hs=>by
  refine hout s (hbd s hs) fun hm=> ?_
  rcases List.mem_append.1 hs with hs | hs
  ·exact hp.wr s hm hs
  ·exact hp.ww s hm hs
 obtain⟨k1,hk1,s2⟩:=q4k s1 (fun s hs=>hs) hb
 have hok:=z9o hk1
 have hlk:=z6j hk1
 have hlb:=z6j hb
 have s3:Same (z0v Γ f args h) h k1:=fun s hs=>(hok s fun hm=>hp.rw s hm hs).symm
 obtain⟨k2,hk2,al⟩:=x6n hlk s3 ha
 have hfe:=q4n hlk s3
 obtain⟨hl2,hoq⟩:=q2s hk2
 rw[hfe] at hoq
 have hold:∀ s,h[s]? =k1[s]? →h1[s]? =k2[s]? :=fun s he=>by
  by_cases hs:s < h.length
  ·exact al.old s hs he
  ·exact (al.new s (by omega)).symm
 have:k2=h2:=by
  apply List.ext_getElem?
  intro x
  by_cases hx:x∈(z3k base ts b).2
  ·have hlt:=hbd x (List.mem_append_right _ hx)
   rw[hoq x (by omega) (hp.rw x hx),←s2 x (List.mem_append_right _ hx)]
  ·rw[←hold x (hok x hx).symm,hob x hx]
 subst this
 refine⟨k1,hk1,hk2, ?_⟩
 rw[hfe]
 exact q6t (fun s hs=>(s3 s hs).symm) (fun s hs=>(hold s (s3 s hs)).symm)
theorem y2f {t u:Todo} {h h1 h2:List AObj} {ga gb c c1 c2:Nat} {va vb:AV} (hnc:t.isCall=false∨u.isCall=false)
  (ha:doT (z0k R Γ) base ga ts h c t=some (va,h1,c1)) (hb:doT (z0k R Γ) base gb ts h1 c1 u=some (vb,h2,c2)) (hp:Apart (q3p Γ base ts h h1 t) (q3p Γ base ts h1 h2 u))
  (hbt:u.isCall=true→∀ s∈(q3p Γ base ts h h1 t).1++(q3p Γ base ts h h1 t).2,s < h.length) (hbu:t.isCall=true→∀ s∈(q3p Γ base ts h1 h2 u).1++(q3p Γ base ts h1 h2 u).2,s < h.length):
  ∃ k1 d1,doT (z0k R Γ) base gb ts h c u=some (vb,k1,d1)∧doT (z0k R Γ) base ga ts k1 d1 t=some (va,h2,c2)∧q3p Γ base ts h k1 u=q3p Γ base ts h1 h2 u∧q3p Γ base ts k1 h2 t=q3p Γ base ts h h1 t∧h.length≤k1.length:=by
 cases t with
 | prim a=>
   simp only[doT,Option.map_eq_some_iff,Prod.mk.injEq] at ha
   obtain⟨⟨va',h1'⟩,ha,rfl,rfl,rfl⟩:=ha
   cases u with
   | prim b=>
     simp only[doT,Option.map_eq_some_iff,Prod.mk.injEq] at hb
     obtain⟨⟨vb',h2'⟩,hb,rfl,rfl,rfl⟩:=hb
     obtain⟨k1,e1,e2⟩:=v2w ha hb hp
     exact⟨k1,c,by simp only[doT,e1,Option.map_some],by simp only[doT,e2,Option.map_some],rfl,rfl,by rw[z6j e1];exact Nat.le_refl _⟩
   | call f args=>
     obtain⟨k1,e1,e2,e3⟩:=v2x ha hb hp (hbt rfl)
     exact⟨k1,c2,e1,by simp only[doT,e2,Option.map_some],e3,rfl,(q2s e1).1⟩
 | call f args=>
   cases u with
   | call _ _=>simp[Todo.isCall] at hnc
   | prim b=>
     simp only[doT,Option.map_eq_some_iff,Prod.mk.injEq] at hb
     obtain⟨⟨vb',h2'⟩,hb,rfl,rfl,rfl⟩:=hb
     obtain⟨k1,e1,e2,e3⟩:=v2y ha hb hp (hbu rfl)
     exact⟨k1,c,by simp only[doT,e1,Option.map_some],e2,rfl,e3,by rw[z6j e1];exact Nat.le_refl _⟩
theorem x2b {ts:Tmps} {d:Option Nat} {v:AV} {l:List Nat} (h:∀ t,d=some t→t∉l):Agree l (z9f ts d v) ts:=fun t ht=>by
 cases d with
 | none=>rfl
 | some d=>
   have:t≠d:=fun e=>h d rfl (e ▸ ht)
   simp only[z9f,upd,if_neg this]
theorem j8n {ts:Tmps} {d e:Option Nat} {v u:AV} (h:∀ t,d=some t→e≠some t):z9f (z9f ts d v) e u=z9f (z9f ts e u) d v:=by
 cases d with
 | none=>rfl
 | some d=>
   cases e with
   | none=>rfl
   | some e=>
     have hne:e≠d:=fun he=>h d rfl (by rw[he])
     funext j
     simp only[z9f,upd]
     by_cases h1:j=e
     ·subst h1
      simp[hne]
     ·simp[h1]
theorem j5n {a b:AOper} (h:indep a b=true):(∀ t,a.dst=some t→t∉b.reads)∧(∀ t,a.dst=some t→b.dst≠some t)∧(∀ t,b.dst=some t→t∉a.reads):=by
 unfold indep at h
 simp only[Bool.and_eq_true] at h
 obtain⟨h1,h2⟩:=h
 refine⟨fun t ht=> ?_,fun t ht=> ?_,fun t ht=> ?_⟩
 ·rw[ht] at h1;simp at h1;exact h1.1
 ·rw[ht] at h1;simp at h1;exact h1.2
 ·rw[ht] at h2;simpa using h2
theorem j8o {a b:AOper} {s s1 s2:St} {ga gb:Nat} (ind:indep a b=true) (hnc:a.op.isCall=false∨b.op.isCall=false)
  (ha:stepA (z0k R Γ) base ga a s=some s1) (hb:stepA (z0k R Γ) base gb b s1=some s2) (hp:Apart (footOfK Γ base a s s1) (footOfK Γ base b s1 s2))
  (hbt:b.op.isCall=true→∀ x∈(footOfK Γ base a s s1).1++(footOfK Γ base a s s1).2,x < s.h.length) (hbu:a.op.isCall=true→∀ x∈(footOfK Γ base b s1 s2).1++(footOfK Γ base b s1 s2).2,x < s.h.length):
  ∃ k,stepA (z0k R Γ) base gb b s=some k∧stepA (z0k R Γ) base ga a k=some s2∧footOfK Γ base b s k=footOfK Γ base b s1 s2∧footOfK Γ base a k s2=footOfK Γ base a s s1∧s.h.length≤k.h.length:=by
 obtain⟨i1,i2,i3⟩:=j5n ind
 obtain⟨t,va,h1,c1,ht,hda,rfl,hfa⟩:=q0g ha
 obtain⟨u,vb,h2,c2,hu,hdb,rfl,hfb⟩:=q0g hb
 simp only at hu hdb hfb hp hbt hbu hb
 have hA:Agree b.reads (z9f s.ts a.dst va) s.ts:=x2b i1
 have hu':z9g s.ts b=some u:=by rw[←x2a hA];exact hu
 have hdb':doT (z0k R Γ) base gb s.ts h1 c1 u=some (vb,h2,c2):=by rw[←x6q hA hu];exact hdb
 rw[hfa,hfb,q1b hA hu] at hp
 rw[hfa] at hbt
 rw[hfb,q1b hA hu] at hbu
 obtain⟨k1,d1,e1,e2,e3,e4,e5⟩:=y2f (hnc.imp (z9p ht) (z9p hu)) hda hdb' hp (fun hc=>hbt (by
  cases hx:b.op.isCall with
  | true=>rfl
  | false=>rw[z9p hu hx] at hc;simp at hc)) (fun hc=>hbu (by
  cases hx:a.op.isCall with
  | true=>rfl
  | false=>rw[z9p ht hx] at hc;simp at hc))
 have hB:Agree a.reads (z9f s.ts b.dst vb) s.ts:=x2b i3
 have st1:=j2f (s:=s) hu' e1
 have ht':z9g (z9f s.ts b.dst vb) a=some t:=by rw[x2a hB];exact ht
 have st2:=j2f (C:=z0k R Γ) (base:=base) (gen:=ga) (s:=⟨z9f s.ts b.dst vb,k1,d1⟩) ht' (by rw[←x6q hB ht'] at e2;exact e2)
 have hc:z9f (z9f s.ts b.dst vb) a.dst va=z9f (z9f s.ts a.dst va) b.dst vb:=j8n fun t ht he=>i2 t he ht
 simp only at st2
 rw[hc] at st2
 refine⟨_,st1,st2, ?_, ?_,e5⟩
 ·obtain⟨u2,_,q1,_,hu2,_,he,hf2⟩:=q0g st1
  obtain rfl:k1=q1:=congrArg St.h he
  rw[hu'] at hu2
  simp only[Option.some.injEq] at hu2
  subst hu2
  rw[hf2,hfb,q1b hA hu]
  exact e3
 ·obtain⟨t2,_,q1,_,ht2,_,he,hf2⟩:=q0g st2
  obtain rfl:h2=q1:=congrArg St.h he
  simp only at ht2
  rw[ht'] at ht2
  simp only[Option.some.injEq] at ht2
  subst ht2
  rw[hf2,hfa]
  simp only
  rw[q1b hB ht']
  exact e4
end
end
section
def q7o (acc:Array Nat) (s:Nat) (e:Edge):Nat:=if Region.binds .any e then s ||| 2 ^ e.on ||| acc.getD e.on 0 else s
theorem x6r {acc:Array Nat} {i:Nat}:∀ {es:List Edge} {s:Nat},(es.foldl (q7o acc) s).testBit i=true→s.testBit i=true∨∃ e∈es,Region.binds .any e=true∧(e.on=i∨(acc.getD e.on 0).testBit i=true)
 | [],s,h=> .inl h
 | e::es,s,h=>by
   rw[List.foldl_cons] at h
   rcases x6r h with h | ⟨e',he',h'⟩
   ·unfold q7o at h
    split at h
    ·rename_i hb
     simp only[Nat.testBit_or,Bool.or_eq_true,Nat.testBit_two_pow,decide_eq_true_eq] at h
     rcases h with (h | h) | h
     ·exact .inl h
     ·exact .inr ⟨e,List.mem_cons_self,hb, .inl h⟩
     ·exact .inr ⟨e,List.mem_cons_self,hb, .inr h⟩
    ·exact .inl h
   ·exact .inr ⟨e',List.mem_cons_of_mem _ he',h'⟩
def z4m (acc:Array Nat) (o:Oper):Array Nat:=acc.push (o.after.toList.foldl (q7o acc) 0)
theorem j8p (ops:Array Oper):Region.before ops=ops.toList.foldl z4m #[]:=by
 unfold Region.before
 rw[←Array.foldl_toList]
 congr 1
 funext acc o
 unfold z4m
 rw[←Array.foldl_toList]
 rfl
theorem x6s {acc:Array Nat} {x i b:Nat} (h:(acc.getD i 0).testBit b=true):(acc.push x).getD i 0=acc.getD i 0:=by
 have hi:i < acc.size:=by
  apply Nat.lt_of_not_le
  intro hn
  rw[Array.getD_eq_getD_getElem?,Array.getElem?_eq_none hn] at h
  simp at h
 rw[Array.getD_eq_getD_getElem?,Array.getD_eq_getD_getElem?,Array.getElem?_push_lt hi,Array.getElem?_eq_getElem hi]
theorem v2z {α:Type} {p:List α→Prop} (h0:p []) (h1:∀ l a,p l→p (l++[a])) (l:List α):p l:=by
 have:∀ m:List α,p m.reverse:=fun m=>by
  induction m with
  | nil=>exact h0
  | cons a m ih=>rw[List.reverse_cons];exact h1 _ _ ih
 have h2:=this l.reverse
 rwa [List.reverse_reverse] at h2
theorem j8q (l:List Oper):(l.foldl z4m #[]).size=l.length∧∀ j i,((l.foldl z4m #[]).getD j 0).testBit i=true→∃ o,l[j]? =some o∧∃ e∈o.after.toList,Region.binds .any e=true∧(e.on=i∨((l.foldl z4m #[]).getD e.on 0).testBit i=true):=by
 induction l using v2z with
 | h0=>exact⟨rfl,fun j i h=>by simp at h⟩
 | h1 l o ih=>
   obtain⟨h1,h2⟩:=ih
   rw[List.foldl_append,List.foldl_cons,List.foldl_nil]
   generalize l.foldl z4m #[]=B at *
   refine⟨by simp[z4m,h1],fun j i h=> ?_⟩
   by_cases hj:j < l.length
   ·have hg:(z4m B o).getD j 0=B.getD j 0:=by
     unfold z4m
     rw[Array.getD_eq_getD_getElem?,Array.getD_eq_getD_getElem?,Array.getElem?_push_lt (by omega),Array.getElem?_eq_getElem (by omega)]
    rw[hg] at h
    obtain⟨o',ho',e,he,hb,h3⟩:=h2 j i h
    refine⟨o',by rw[List.getElem?_append_left hj];exact ho',e,he,hb,h3.imp id fun h3=> ?_⟩
    unfold z4m
    rw[x6s h3]
    exact h3
   ·by_cases hj2:j=l.length
    ·subst hj2
     have hg:(z4m B o).getD l.length 0=o.after.toList.foldl (q7o B) 0:=by
      unfold z4m
      rw[Array.getD_eq_getD_getElem?,←h1,Array.getElem?_push_size]
      rfl
     rw[hg] at h
     rcases x6r h with h | ⟨e,he,hb,h3⟩
     ·simp at h
     ·refine⟨o,by simp,e,he,hb,h3.imp id fun h3=> ?_⟩
      unfold z4m
      rw[x6s h3]
      exact h3
    ·rw[Array.getD_eq_getD_getElem?,Array.getElem?_eq_none (by simp[z4m];omega)] at h
     simp at h
theorem x9k {ops:Array Oper} {j i:Nat} (h:((Region.before ops).toList.getD j 0).testBit i=true):
  ∃ o,ops[j]? =some o∧∃ e∈o.after.toList,Region.binds .any e=true∧(e.on=i∨((Region.before ops).toList.getD e.on 0).testBit i=true):=by
 have conv:∀ k,(Region.before ops).toList.getD k 0=(ops.toList.foldl z4m #[]).getD k 0:=fun k=>by
  rw[j8p]
  simp[List.getD,Array.getD_eq_getD_getElem?]
 rw[conv] at h
 obtain⟨o,ho,e,he,hb,h3⟩:=(j8q ops.toList).2 j i h
 exact⟨o,by simpa using ho,e,he,hb,h3.imp id fun h3=>by rw[conv];exact h3⟩
theorem q6u:∀ {os:List Oper} {j0:Nat},q5q j0 os=true→∀ (j:Nat) o,os[j]? =some o→∀ e∈o.after.toList,Region.binds .any e=true→e.on < j0 + j
 | [],_,_,j,o,ho=>by simp at ho
 | x::os,j0,h,j,o,ho=>by
   simp only[q5q,Bool.and_eq_true] at h
   cases j with
   | zero=>
     simp at ho
     subst ho
     intro e he hb
     have:=List.all_eq_true.1 h.1 e he
     rw[hb] at this
     simpa using this
   | succ j=>
     intro e he hb
     have:=q6u h.2 j o (by simpa using ho) e he hb
     omega
theorem q8t {bj j cj:Nat}:∀ {os:List AOper} {i0 p:Nat} {o:AOper},os[p]? =some o→i0 + p < j→bj.testBit (i0 + p)=false→z3q o.op≠0→cj≠0→(z3q o.op=2∨cj=2)→(i0 + p,j)∈q7u bj j cj i0 os
 | [],_,p,o,h,_,_,_,_,_=>by simp at h
 | x::os,i0,p,o,h,h1,h2,h3,h4,h5=>by
   simp only[q7u,List.mem_append]
   cases p with
   | zero=>
     simp at h
     subst h
     left
     rw[Nat.add_zero] at h1 h2
     rw[if_pos ⟨h1,by rw[h2];rfl,by omega,h3,h4,h5⟩]
     simp
   | succ p=>
     right
     have:=q8t (bj:=bj) (j:=j) (cj:=cj) (os:=os) (i0:=i0 + 1) (p:=p) (o:=o) (by simpa using h) (by omega) (by rw[show i0 + 1 + p=i0 + (p + 1) by omega];exact h2) h3 h4 h5
     rw[show i0 + 1 + p=i0 + (p + 1) by omega] at this
     exact this
theorem q8u {bs:List Nat} {all:List AOper} {x:Nat×Nat}:∀ {os:List AOper} {j0 q:Nat} {o:AOper},os[q]? =some o→x∈q7u (bs.getD (j0 + q) 0) (j0 + q) (z3q o.op) 0 all→x∈q1o bs all j0 os
 | [],_,q,o,h,_=>by simp at h
 | y::os,j0,q,o,h,hx=>by
   simp only[q1o,List.mem_append]
   cases q with
   | zero=>
     simp at h
     subst h
     exact .inl hx
   | succ q=>
     right
     refine q8u (q:=q) (o:=o) (by simpa using h) ?_
     rw[show j0 + 1 + q=j0 + (q + 1) by omega]
     exact hx
theorem q6v {bj j:Nat} {o:AOper}:∀ {os:List AOper} {i0 p:Nat} {x:AOper},q7v bj j o i0 os=true→os[p]? =some x→i0 + p < j→bj.testBit (i0 + p)=false→indep x o=true
 | [],_,p,x,_,h,_,_=>by simp at h
 | y::os,i0,p,x,hi,h,h1,h2=>by
   simp only[q7v,Bool.and_eq_true] at hi
   cases p with
   | zero=>
     simp at h
     subst h
     have:=hi.1
     simp only[Nat.add_zero] at h1 h2
     simp[h1,h2] at this
     exact this
   | succ p=>exact q6v hi.2 (p:=p) (by simpa using h) (by omega) (by rw[show i0 + 1 + p=i0 + (p + 1) by omega];exact h2)
theorem q6w {bs:List Nat} {all:List AOper}:∀ {os:List AOper} {j0 q:Nat} {o:AOper},q7w bs all j0 os=true→os[q]? =some o→q7v (bs.getD (j0 + q) 0) (j0 + q) o 0 all=true
 | [],_,q,o,_,h=>by simp at h
 | y::os,j0,q,o,hi,h=>by
   simp only[q7w,Bool.and_eq_true] at hi
   cases q with
   | zero=>
     simp at h
     subst h
     exact hi.1
   | succ q=>
     have:=q6w hi.2 (q:=q) (by simpa using h)
     rw[show j0 + 1 + q=j0 + (q + 1) by omega] at this
     exact this
theorem q4o {Γ:AProg} {base:Nat} {o:AOper} {s s':St} (h:z3q o.op=0):footOfK Γ base o s s'=([],[]):=by
 unfold footOfK
 split
 ·obtain⟨d,op,g⟩:=o
  cases op <;> simp[z3q] at h <;> rfl
 ·rfl
theorem q4p {Γ:AProg} {base:Nat} {o:AOper} {s s':St} (h:z3q o.op=1):(footOfK Γ base o s s').2=[]:=by
 unfold footOfK
 split
 ·obtain⟨d,op,g⟩:=o
  cases op <;> simp[z3q] at h <;> rfl
 ·rfl
theorem z5h {op:AOp} (h:op.isCall=true):z3q op=2:=by
 cases op <;> simp[AOp.isCall] at h <;> rfl
theorem x2c (op:AOp):z3q op=0∨z3q op=1∨z3q op=2:=by
 cases op <;> simp[z3q]
section
variable {R:Nat→ACode→St→Option (AEx×St)} {Γ:AProg} {base clk0:Nat} {asx:List AOper} {fs:Nat→List Nat×List Nat}
inductive Runs (C:Caller) (Γ:AProg) (base clk0:Nat) (asx:List AOper) (fs:Nat→List Nat×List Nat):List Nat→St→St→Prop
 | nil (s:St):Runs C Γ base clk0 asx fs [] s s
 | cons {i:Nat} {o:AOper} {is:List Nat} {s s1 s2:St}:asx[i]? =some o→stepA C base (clk0 + i) o s=some s1→footOfK Γ base o s s1=fs i→Runs C Γ base clk0 asx fs is s1 s2→Runs C Γ base clk0 asx fs (i::is) s s2
structure PairOk (asx:List AOper) (fs:Nat→List Nat×List Nat) (N i j:Nat):Prop where
 ind:∀ a b,asx[i]? =some a→asx[j]? =some b→indep a b=true
 calls:∀ a b,asx[i]? =some a→asx[j]? =some b→a.op.isCall=false∨b.op.isCall=false
 apart:Apart (fs i) (fs j)
 left:∀ b,asx[j]? =some b→b.op.isCall=true→∀ x∈(fs i).1++(fs i).2,x < N
 right:∀ a,asx[i]? =some a→a.op.isCall=true→∀ x∈(fs j).1++(fs j).2,x < N
theorem x6t {gen:Nat} {o:AOper} {s s':St} (h:stepA (z0k R Γ) base gen o s=some s'):s.h.length≤s'.h.length:=by
 obtain⟨t,v,h1,c,_,hd,rfl,_⟩:=q0g h
 cases t with
 | prim op=>
   simp only[doT,Option.map_eq_some_iff,Prod.mk.injEq] at hd
   obtain⟨⟨v',h'⟩,hd,rfl,rfl,rfl⟩:=hd
   rw[z6j hd]
   exact Nat.le_refl _
 | call f args=>exact (q2s hd).1
theorem Runs.bubble {N j:Nat} {l2:List Nat} {s':St}:∀ {l1:List Nat} {s:St},Runs (z0k R Γ) Γ base clk0 asx fs (l1++j::l2) s s'→(∀ i∈l1,PairOk asx fs N i j)→N≤s.h.length→Runs (z0k R Γ) Γ base clk0 asx fs (j::(l1++l2)) s s'
 | [],s,h,_,_=>h
 | i::l1,s,h,hp,hN=>by
   cases h with
   | cons ha hst hf hr=>
     rename_i a s1
     have hlen:=x6t hst
     have:=Runs.bubble hr (fun k hk=>hp k (List.mem_cons_of_mem _ hk)) (by omega)
     cases this with
     | cons hb hst2 hf2 hr2=>
       rename_i b s2
       have hpk:=hp i List.mem_cons_self
       obtain⟨k,e1,e2,e3,e4,e5⟩:=j8o (hpk.ind a b ha hb) (hpk.calls a b ha hb) hst hst2 (by rw[hf,hf2];exact hpk.apart)
        (fun hc x hx=>Nat.lt_of_lt_of_le (hpk.left b hb hc x (by rw[←hf];exact hx)) hN) (fun hc x hx=>Nat.lt_of_lt_of_le (hpk.right a ha hc x (by rw[←hf2];exact hx)) hN)
       exact .cons hb e1 (by rw[e3,hf2]) (.cons ha e2 (by rw[e4,hf]) hr2)
theorem Runs.foot {C:Caller}:∀ {l:List Nat} {s s':St},Runs C Γ base clk0 asx fs l s s'→∀ i∈l,∃ o s1 s2,asx[i]? =some o∧fs i=footOfK Γ base o s1 s2
 | [],_,_,_,i,hi=>by simp at hi
 | k::l,s,s',h,i,hi=>by
   cases h with
   | cons ha hst hf hr=>
     rename_i o s1
     rcases List.mem_cons.1 hi with rfl | hi
     ·exact⟨o,s,s1,ha,hf.symm⟩
     ·exact Runs.foot hr i hi
theorem q3a {C:Caller}:∀ {os:List AOper} {g:Nat} {s s':St},z8n C base g os s=some s'→∃ l,z3g C Γ base g os s=some (s',l)
 | [],g,s,s',h=>by
   simp only[z8n,Option.some.injEq] at h
   subst h
   exact⟨[],rfl⟩
 | o::os,g,s,s',h=>by
   simp only[z8n] at h
   split at h
   ·rename_i s1 hs
    obtain⟨l,hl⟩:=q3a h
    exact⟨_,by simp only[z3g,hs,hl,Option.map_some];rfl⟩
   ·simp at h
theorem q1s {C:Caller}:∀ {os:List AOper} {j:Nat} {s s':St} {l:List (List Nat×List Nat)},os=asx.drop j→z3g C Γ base (clk0 + j) os s=some (s',l)→(∀ (i:Nat) f,l[i]? =some f→fs (j + i)=f)→
  Runs C Γ base clk0 asx fs (List.range' j os.length) s s'∧l.length=os.length
 | [],j,s,s',l,ho,h,hf=>by
   simp only[z3g,Option.some.injEq,Prod.mk.injEq] at h
   obtain⟨rfl,rfl⟩:=h
   exact⟨.nil _,rfl⟩
 | o::os,j,s,s',l,ho,h,hf=>by
   simp only[z3g] at h
   split at h
   ·rename_i s1 hs
    simp only[Option.map_eq_some_iff,Prod.mk.injEq] at h
    obtain⟨⟨s2,l'⟩,hr,rfl,rfl⟩:=h
    have hao:asx[j]? =some o:=by
     have:(asx.drop j)[0]? =some o:=by rw[←ho];rfl
     simpa using this
    have hd:os=asx.drop (j + 1):=by
     have:(o::os).tail=(asx.drop j).tail:=by rw[ho]
     simpa [List.tail_drop] using this
    obtain⟨h1,h2⟩:=q1s (j:=j + 1) hd (by rw[←Nat.add_assoc];exact hr) (fun i f hi=>by
     have:=hf (i + 1) f (by simpa using hi)
     rw[←this];congr 1;omega)
    refine⟨?_,by simp[h2]⟩
    rw[List.length_cons,List.range'_succ]
    refine .cons hao hs ?_ h1
    have:=hf 0 _ rfl
    rw[Nat.add_zero] at this
    rw[this]
    rfl
   ·simp at h
end
end
section
variable {P:Program} {G:Ghost} {I:Imm} {h:List AObj} {w:World}
theorem q8v {ops:Array Oper} {listed:Array Bool} (hsz:listed.size=ops.size) {i:Nat}:i∈Region.ready .any ops listed↔i < ops.size∧listed.getD i false=false∧∃ o,ops[i]? =some o∧∀ e∈o.after.toList,Region.binds .any e=true→listed.getD e.on false=true:=by
 unfold Region.ready
 rw[List.mem_filter,List.mem_range]
 constructor
 ·rintro ⟨hi,h⟩
  simp only[Bool.and_eq_true,Bool.not_eq_true'] at h
  obtain⟨h1,h2⟩:=h
  refine⟨hi, ?_,ops[i],Array.getElem?_eq_getElem hi,fun e he hb=> ?_⟩
  ·rw[Array.getD_eq_getD_getElem?,Array.getElem?_eq_getElem (by omega)] at h1⊢
   exact h1
  ·rw[Array.getElem?_eq_getElem hi] at h2
   simp only[Option.map_some,Option.getD_some] at h2
   have h3:=Array.all_eq_true'.1 h2 e (by simpa using he)
   rw[hb] at h3
   simpa using h3
 ·rintro ⟨hi,h1,o,ho,h2⟩
  refine⟨hi, ?_⟩
  simp only[Bool.and_eq_true,Bool.not_eq_true']
  constructor
  ·rw[Array.getD_eq_getD_getElem?,Array.getElem?_eq_getElem (by omega)] at h1⊢
   exact h1
  ·rw[ho]
   simp only[Option.map_some,Option.getD_some]
   refine Array.all_eq_true'.2 fun e he=> ?_
   cases hb:Region.binds .any e with
   | false=>rfl
   | true=>simpa using h2 e (by simpa using he) hb
theorem j2g {listed:Array Bool} {i j:Nat} (hi:i < listed.size):(listed.setIfInBounds i true).getD j false=if j=i then true else listed.getD j false:=by
 rw[Array.getD_eq_getD_getElem?,Array.getD_eq_getD_getElem?,Array.getElem?_setIfInBounds]
 by_cases h:i=j
 ·subst h
  simp[hi]
 ·simp[h,Ne.symm h]
theorem Ran.drew {base clk:Nat} {G':Ghost} {I':Imm} {h':List AObj} {w w':World} {d:Nat} (r:Ran base clk G I h {w with drawn:=d} G' I' h' w'):Ran base clk G I h w G' I' h' w':=
 ⟨r.rel,r.gle,r.ile,r.slots,r.own,⟨r.fr.os,r.fr.tape,r.fr.output,r.fr.size,r.fr.kept⟩,r.ifr⟩
theorem Rel.drew {w:World} {d:Nat} (r:Rel G I h w):Rel G I h {w with drawn:=d}:=r.world fun _ _ hx=>hx
theorem w0i {R:Nat→ACode→St→Option (AEx×St)} {Γ:AProg} {back:Nat→Option Nat} {nt B base clk0 N:Nat} {mu:Bool} {ops:Array Oper} {asx:List AOper} {fs:Nat→List Nat×List Nat}
  (hC:q4h P (z0k R Γ)) (hB:q1k P back) (m:MadeAll P back nt mu ops asx) (hedge:q5q 0 ops.toList=true)
  (hpair:∀ i j,i < j→j < ops.size→((Region.before ops).toList.getD j 0).testBit i=false→PairOk asx fs N i j):
  ∀ (fuel:Nat) (l:List Nat) (listed:Array Bool) (s s':St) (G:Ghost) (I:Imm) (w:World) (a:Act),l.length≤fuel→listed.size=ops.size→l.Pairwise (· < ·)→(∀ i,i∈l↔i < ops.size∧listed.getD i false=false)→
    (∀ j,listed.getD j false=true→∀ i,((Region.before ops).toList.getD j 0).testBit i=true→listed.getD i false=true)→
    Runs (z0k R Γ) Γ base clk0 asx fs l s s'→N≤s.h.length→Live nt B G I s a w→v9x (fun g=>∃ k∈l,g=clk0 + k) G s.clk→clk0 + ops.size≤s.clk→base≤s.h.length→
    ∀ (r:Option Nat) (q:Nat) (Q:Exit→Act→World→Prop),Came base nt B clk0 G I s w s' (Q .normal)→wpAnyIn (q6s r) q P .any ops Q fuel listed a w:=by
 intro fuel
 induction fuel with
 | zero=>
   intro l listed s s' G I w a hlen hsz hord hmem hdown hruns hN hl hK hclk hb r q Q hQ
   have:l=[]:=List.length_eq_zero_iff.1 (by omega)
   subst this
   cases hruns
   refine⟨List.eq_nil_iff_forall_not_mem.2 fun i hi=> ?_,hQ a w G I hl (Ran.refl hl.rel) (fun g hg=>hK g (.inr hg)) (Nat.le_refl _) (Nat.le_refl _)⟩
   have:=(q8v hsz).1 hi
   have:=(hmem i).2 ⟨this.1,this.2.1⟩
   simp at this
 | succ fuel ih=>
   intro l listed s s' G I w a hlen hsz hord hmem hdown hruns hN hl hK hclk hb r q Q hQ
   refine⟨fun hr0=> ?_,fun i hi=> ?_⟩
   ·have hnil:l=[]:=by
     cases l with
     | nil=>rfl
     | cons k l=>
       exfalso
       have hk:=(hmem k).1 List.mem_cons_self
       have:k∈Region.ready .any ops listed:=by
        refine (q8v hsz).2 ⟨hk.1,hk.2,ops[k],Array.getElem?_eq_getElem hk.1,fun e he hbd=> ?_⟩
        have hlt:=q6u hedge k ops[k] (by simp) e he hbd
        cases hx:listed.getD e.on false with
        | true=>rfl
        | false=>
          exfalso
          have hin:=(hmem e.on).2 ⟨by omega,hx⟩
          rcases List.mem_cons.1 hin with heq | hin
          ·omega
          ·have:=List.rel_of_pairwise_cons hord hin
           omega
       rw[hr0] at this
       simp at this
    subst hnil
    cases hruns
    exact hQ a w G I hl (Ran.refl hl.rel) (fun g hg=>hK g (.inr hg)) (Nat.le_refl _) (Nat.le_refl _)
   ·obtain⟨hi1,hi2,o,ho,hedges⟩:=(q8v hsz).1 hi
    have hil:=(hmem i).2 ⟨hi1,hi2⟩
    obtain⟨l1,l2,rfl⟩:=List.append_of_mem hil
    have hbits:∀ k,((Region.before ops).toList.getD i 0).testBit k=true→listed.getD k false=true:=fun k hk=>by
     obtain⟨o',ho',e,he,hbd,h3⟩:=x9k hk
     rw[ho] at ho'
     simp only[Option.some.injEq] at ho'
     subst ho'
     have hon:=hedges e he hbd
     rcases h3 with rfl | h3
     ·exact hon
     ·exact hdown e.on hon k h3
    have hlow:∀ k∈l1,k < i:=fun k hk=>(List.pairwise_append.1 hord).2.2 k hk i List.mem_cons_self
    have hb1:=hruns.bubble (fun k hk=>hpair k i (hlow k hk) hi1 (by
     cases hx:((Region.before ops).toList.getD i 0).testBit k with
     | false=>rfl
     | true=>
       have h1:=hbits k hx
       have h2:=((hmem k).1 (List.mem_append_left _ hk)).2
       rw[h1] at h2
       simp at h2)) hN
    cases hb1 with
    | cons hao hst hft hrest=>
      rename_i ao s1
      obtain⟨ao',n,hao',hm⟩:=m.made i o ho
      rw[hao] at hao'
      simp only[Option.some.injEq] at hao'
      subst hao'
      have hnd:l1++i::l2=l1++i::l2:=rfl
      have hne:∀ k∈l1++l2,k≠i:=fun k hk he=>by
       subst he
       rcases List.mem_append.1 hk with hk | hk
       ·exact Nat.lt_irrefl _ (hlow k hk)
       ·have:=(List.pairwise_append.1 hord).2.1
        exact Nat.lt_irrefl _ (List.rel_of_pairwise_cons this hk)
      have hmem':∀ k,k∈l1++l2↔k∈l1++i::l2∧k≠i:=fun k=>by
       constructor
       ·intro hk
        refine⟨?_,hne k hk⟩
        simp only[List.mem_append,List.mem_cons] at hk⊢
        rcases hk with hk | hk
        ·exact .inl hk
        ·exact .inr (.inr hk)
       ·rintro ⟨hk,hki⟩
        simp only[List.mem_append,List.mem_cons] at hk⊢
        rcases hk with hk | hk | hk
        ·exact .inl hk
        ·exact absurd hk hki
        ·exact .inr hk
      have hstep:=j8f (r:=r) (k:=q) (Q:=Q) (K:=wpAnyIn (q6s r) q P .any ops Q fuel (listed.setIfInBounds i true)) (lo:=clk0) (gen:=clk0 + i) (U:=fun g=>∃ k∈l1++i::l2,g=clk0 + k) hC hB hm hl
       (fun j t hj=>Nat.lt_of_lt_of_le (m.dst j t hj) hl.size) hst ⟨i,hil,rfl⟩ (fun g hg=>by
        obtain⟨k,hk,rfl⟩:=hg
        have:=((hmem k).1 hk).1
        omega) hK (by omega) (by omega) hb (fun a1 w1 G1 I1 hl1 hran hK1 hc1 hlen1 hsz1=>by
        refine ih (l1++l2) (listed.setIfInBounds i true) s1 s' G1 I1 w1 a1 ?_ (by rw[Array.size_setIfInBounds];exact hsz) ?_ (fun k=> ?_) (fun j hj k hk=> ?_) hrest (by omega) hl1 (fun g hg=>hK1 g ?_) (by omega) (by omega) r q Q fun a2 w2 G2 I2 hl2 hran2 hf2 hc2 hlen2=> ?_
        ·simp only[List.length_append,List.length_cons] at hlen⊢
         omega
        ·refine List.Pairwise.sublist ?_ hord
         exact List.Sublist.append_left (List.sublist_cons_self _ _) _
        ·rw[hmem' k,hmem k,j2g (by omega)]
         by_cases hki:k=i
         ·simp[hki]
         ·simp[hki]
        ·rw[j2g (by omega)] at hj⊢
         split
         ·rfl
         ·split at hj
          ·rename_i hji
           subst hji
           exact hbits k hk
          ·exact hdown j hj k hk
        ·rcases hg with ⟨k,hk,rfl⟩ | hg
         ·refine .inl ⟨⟨k,((hmem' k).1 hk).1,rfl⟩, ?_⟩
          have:=hne k hk
          omega
         ·exact .inr hg
        ·exact hQ a2 w2 G2 I2 hl2 (hran.trans hran2 (Nat.le_refl _) (Nat.le_refl _)) hf2 (by omega) (by omega))
      unfold wpOpIn
      rw[ho]
      simp only
      split
      ·rename_i hw
       rw[if_pos hw] at hstep
       exact hstep
      ·rename_i hw
       rw[if_neg hw] at hstep
       exact hstep
theorem x9l {back:Nat→Option Nat} (hm:P.follows .mixedOrders=true):x6m P back:=by
 intro Γ k nt B base mu id ops asx hC hB m hind hcalls hedge s s' G I w a hr hl hf hb r q Q hQ
 refine wpIn_region_any hm ?_
 have hlen:=m.len
 have start:∃ fs:Nat→List Nat×List Nat,Runs (z0k (z4a Γ k) Γ) Γ base s.clk asx fs (List.range' 0 asx.length) {s with clk:=s.clk + asx.length} s'∧
   ∀ i j,i < j→j < ops.size→((Region.before ops).toList.getD j 0).testBit i=false→(i,j)∈q1o (Region.before ops).toList asx 0 asx→Apart (fs i) (fs j)∧(z1d asx i=true∨z1d asx j=true→(∀ x∈(fs i).1++(fs i).2,x < s.h.length)∧(∀ x∈(fs j).1++(fs j).2,x < s.h.length)):=by
  unfold region at hr
  split at hr
  ·rename_i hps
   obtain⟨l,hl'⟩:=q3a (Γ:=Γ) hr
   refine⟨fun i=>l.getD i ([],[]),(q1s (j:=0) rfl (by simpa using hl') fun i f hi=>by simp[List.getD,hi]).1,fun i j _ _ _ hmem=> ?_⟩
   rw[hps] at hmem
   simp at hmem
  ·split at hr
   ·rename_i s1 l hl'
    split at hr
    ·rename_i hchk
     simp only[Option.some.injEq] at hr
     subst hr
     obtain⟨hR,hL⟩:=q1s (fs:=fun i=>l.getD i ([],[])) (j:=0) rfl (by simpa using hl') fun i f hi=>by simp[List.getD,hi]
     refine⟨fun i=>l.getD i ([],[]),hR,fun i j hij hj _ hmem=> ?_⟩
     have hc:=List.all_eq_true.1 hchk (i,j) hmem
     simp only[Bool.and_eq_true,Bool.or_eq_true,Bool.not_eq_true',Bool.or_eq_false_iff] at hc
     refine⟨j5m hc.1,fun hcall=> ?_⟩
     rcases hc.2 with h1 | h1
     ·rcases hcall with h2 | h2
      ·rw[h1.1] at h2;simp at h2
      ·rw[h1.2] at h2;simp at h2
     ·refine⟨fun x hx=> ?_,fun x hx=> ?_⟩
      ·simpa using List.all_eq_true.1 h1 x (List.mem_append_left _ hx)
      ·simpa using List.all_eq_true.1 h1 x (List.mem_append_right _ hx)
    ·simp at hr
   ·simp at hr
 obtain⟨fs,hruns,hap⟩:=start
 have hat:∀ i,i < ops.size→∃ o,asx[i]? =some o:=fun i hi=>⟨asx[i],List.getElem?_eq_getElem (by omega)⟩
 have hfoot:∀ i o,i < ops.size→asx[i]? =some o→∃ s1 s2,fs i=footOfK Γ base o s1 s2:=fun i o hi ho=>by
  obtain⟨o',s1,s2,ho',h⟩:=hruns.foot i (by simp only[List.mem_range'_1];omega)
  rw[ho] at ho'
  simp only[Option.some.injEq] at ho'
  subst ho'
  exact⟨s1,s2,h⟩
 have hpair:∀ i j,i < j→j < ops.size→((Region.before ops).toList.getD j 0).testBit i=false→PairOk asx fs s.h.length i j:=by
  intro i j hij hj hbit
  obtain⟨x,hx⟩:=hat i (by omega)
  obtain⟨y,hy⟩:=hat j hj
  obtain⟨x1,x2,hfx⟩:=hfoot i x (by omega) hx
  obtain⟨y1,y2,hfy⟩:=hfoot j y hj hy
  have hI:indep x y=true:=by
   have:=q6w hind (q:=j) (o:=y) hy
   rw[Nat.zero_add] at this
   exact q6v this (p:=i) hx (by omega) (by rw[Nat.zero_add];exact hbit)
  have mk:(x.op.isCall=false∨y.op.isCall=false)→Apart (fs i) (fs j)→(y.op.isCall=true→∀ z∈(fs i).1++(fs i).2,z < s.h.length)→(x.op.isCall=true→∀ z∈(fs j).1++(fs j).2,z < s.h.length)→PairOk asx fs s.h.length i j:=fun h1 h2 h3 h4=>by
   refine⟨fun a b ha hb=> ?_,fun a b ha hb=> ?_,h2,fun b hb=> ?_,fun a ha=> ?_⟩
   ·rw[hx] at ha;rw[hy] at hb
    simp only[Option.some.injEq] at ha hb
    subst ha hb
    exact hI
   ·rw[hx] at ha;rw[hy] at hb
    simp only[Option.some.injEq] at ha hb
    subst ha hb
    exact h1
   ·rw[hy] at hb
    simp only[Option.some.injEq] at hb
    subst hb
    exact h3
   ·rw[hx] at ha
    simp only[Option.some.injEq] at ha
    subst ha
    exact h4
  by_cases c1:z3q x.op=0
  ·have he:fs i=([],[]):=by rw[hfx];exact q4o c1
   refine mk (.inl ?_) (by rw[he];exact⟨fun s hs=>by simp at hs,fun s hs=>by simp at hs,fun s _=>by simp⟩) (fun _ z hz=>by rw[he] at hz;simp at hz) (fun hc=>by rw[z5h hc] at c1;simp at c1)
   cases hc:x.op.isCall with
   | false=>rfl
   | true=>rw[z5h hc] at c1;simp at c1
  by_cases c2:z3q y.op=0
  ·have he:fs j=([],[]):=by rw[hfy];exact q4o c2
   refine mk (.inr ?_) (by rw[he];exact⟨fun s _=>by simp,fun s _=>by simp,fun s hs=>by simp at hs⟩) (fun hc=>by rw[z5h hc] at c2;simp at c2) (fun _ z hz=>by rw[he] at hz;simp at hz)
   cases hc:y.op.isCall with
   | false=>rfl
   | true=>rw[z5h hc] at c2;simp at c2
  by_cases c3:z3q x.op=2∨z3q y.op=2
  ·have hmem:(i,j)∈q1o (Region.before ops).toList asx 0 asx:=by
    refine q8u (q:=j) (o:=y) hy ?_
    rw[Nat.zero_add]
    have:=q8t (bj:=(Region.before ops).toList.getD j 0) (j:=j) (cj:=z3q y.op) (os:=asx) (i0:=0) (p:=i) (o:=x) hx (by omega) (by rw[Nat.zero_add];exact hbit) c1 c2 c3
    rwa [Nat.zero_add] at this
   obtain⟨h1,h2⟩:=hap i j hij hj hbit hmem
   have hci:x.op.isCall=true→z1d asx i=true:=fun hc=>by simp[z1d,hx,hc]
   have hcj:y.op.isCall=true→z1d asx j=true:=fun hc=>by simp[z1d,hy,hc]
   refine mk ?_ h1 (fun hc=>(h2 (.inr (hcj hc))).1) (fun hc=>(h2 (.inl (hci hc))).2)
   have:=List.all_eq_true.1 hcalls (i,j) hmem
   simp only[hx,hy,Option.map_some,Option.getD_some,Bool.not_eq_true',Bool.and_eq_false_iff] at this
   exact this
  ·have e1:z3q x.op=1:=by rcases x2c x.op with h | h | h <;> omega
   have e2:z3q y.op=1:=by rcases x2c y.op with h | h | h <;> omega
   have g1:(fs i).2=[]:=by rw[hfx];exact q4p e1
   have g2:(fs j).2=[]:=by rw[hfy];exact q4p e2
   refine mk (.inl ?_) ⟨fun s hs=>by rw[g1] at hs;simp at hs,fun s hs=>by rw[g1] at hs;simp at hs,fun s hs=>by rw[g2] at hs;simp at hs⟩ (fun hc=>by rw[z5h hc] at e2;simp at e2) (fun hc=>by rw[z5h hc] at e1;simp at e1)
   cases hc:x.op.isCall with
   | false=>rfl
   | true=>rw[z5h hc] at e1;simp at e1
 have hl':Live nt B G I {s with clk:=s.clk + asx.length} a {w with drawn:=w.drawn + 1}:=⟨hl.bnd,hl.dfr,hl.size,hl.tmps,hl.rel.drew⟩
 refine w0i (N:=s.h.length) (clk0:=s.clk) hC hB m hedge hpair ops.size (List.range' 0 asx.length) (Array.replicate ops.size false) _ s' G I _ a (by simp[hlen]) (by simp) ?_ (fun i=> ?_) (fun j hj=> ?_) hruns (Nat.le_refl _) hl' (fun g hg=>hf g ?_) (by
   show s.clk + ops.size≤s.clk + asx.length
   omega) hb r q Q fun a' w' G' I' h1 h2 h3 h4 h5=>hQ a' w' G' I' h1 h2.drew h3 (by
   have:s.clk + asx.length≤s'.clk:=h4
   omega) h5
 ·exact List.pairwise_lt_range'
 ·rw[List.mem_range'_1,hlen]
  have:(Array.replicate ops.size false).getD i false=false:=by
   rw[Array.getD_eq_getD_getElem?,Array.getElem?_replicate]
   split <;> rfl
  simp[this]
 ·have:(Array.replicate ops.size false).getD j false=false:=by
   rw[Array.getD_eq_getD_getElem?,Array.getElem?_replicate]
   split <;> rfl
  rw[this] at hj
  simp at hj
 ·rcases hg with ⟨k,_,rfl⟩ | hg
  ·omega
  ·have:s.clk + asx.length≤g:=hg
   omega
end
theorem q2t {G G':Ghost}:x9f G G' 0:=by
 intro g i h1 h2
 exact absurd h2 (Nat.not_lt_zero _)
def told (P:Program) (f:Nat) (sem:List AV→Option AV):Prop:=∀ az v,sem az=some v→∀ G I w (cargs:Array Value),VRL G I az cargs.toList→(∀ b o v,I b o=some v→w.cell? ⟨b,o,none⟩=some v)→(∃ clk,Fresh G clk)→CallRes P f cargs w (ExtPost G I w v)
def chk (Γ:AProg) (k f:Nat) (p:List AV×AV):Bool:=(idsL p.1).isEmpty && p.2.ids.isEmpty && match z5b Γ k f p.1 [] 0 with
 | some (w,_,_)=>w.beq p.2
 | none=>false
theorem k4j {P:Program} {Γ:AProg} {back:Nat→Option Nat} (hΓ:ProgOk P back Γ) (hB:q1k P back) (hD:x6m P back) (hR:q1a P Γ) {f:Nat} {tab:List (List AV×AV)} (h:∀ p∈tab,∃ k,chk Γ k f p=true):told P f (q0t tab):=by
 intro az v hv G I w cargs hargs himm _
 unfold q0t at hv
 rw[Option.map_eq_some_iff] at hv
 obtain⟨p,hp,rfl⟩:=hv
 have hbeq:=List.find?_some hp
 have haz:p.1=az:=z6p hbeq
 obtain⟨k,hk⟩:=h p (List.mem_of_find?_eq_some hp)
 simp only[chk,Bool.and_eq_true,List.isEmpty_iff] at hk
 obtain⟨⟨h1,h2⟩,h3⟩:=hk
 split at h3
 ·rename_i v' h' clk hc
  have hvv:=beq_sound h3
  subst hvv
  subst haz
  have hargs0:VRL (fun _=>none) I p.1 cargs.toList:=VRL.keep (n:=0) q2t (by rw[h1];simp) hargs
  intro o a next Q hn
  refine (q5s hΓ hB hD hR k f p.1 [] 0 p.2 h' clk hc (fun _=>none) I w cargs hargs0 ⟨himm,fun i o ho=>by simp at ho,fun i j oi oj b hi=>by simp at hi⟩ (fun _ _=>rfl)) o a next Q fun cv w' he=>hn cv w' ?_
  obtain⟨G',I',hv',hran,_⟩:=he
  refine⟨I',hran.ile,VR.keep (n:=0) q2t (by rw[h2];simp) hv',fun b y hy=> ?_,hran.fr.os,hran.fr.tape,hran.fr.output,hran.fr.size,fun b o v hv=> ?_⟩
  ·have hb:b < w.heap.size:=(Array.getElem?_eq_some_iff.1 hy).1
   rw[hran.fr.kept b hb fun i o hi=>by simp at hi]
   exact hy
  ·rcases Nat.lt_or_ge b w.heap.size with hb | hb
   ·exact .inl (hran.ifr b hb (fun i o hi=>by simp at hi) o v hv)
   ·exact .inr ⟨hb,hran.rel.imm b o v hv⟩
 ·cases h3
end Go.Proofs.YtahdahokpjigiaaGreatDoor.Am
