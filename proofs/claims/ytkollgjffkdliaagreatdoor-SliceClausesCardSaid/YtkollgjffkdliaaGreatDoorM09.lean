/- Two operations of the abstract machine that touch different objects may come in either order Regions whose order is open: the abstract machine's run in the order of the text stands for all orders Regi -/
import Derived.Orders
import Derived.RangeFuncCalls
import Derived.Maps.RangeWalk
import Derived.IntWalk
import Derived.LoopIn
import Derived.Test.YtkollgjffkdliaaGreatDoorProg
import Derived.Test.YtkollgjffkdliaaGreatDoorM08
open Nat renaming reduceBEq → z0,reduceAdd → z1,reduceLeDiff → z2,reduceSub → z3
set_option linter.all false
namespace Go.Proofs.YtkollgjffkdliaaGreatDoor.Am
open Go
set_option maxRecDepth 100000
section
theorem q1p {a b:List Nat} (h:z0l a b=true) {s:Nat} (ha:s∈a):s∉b:=by
 have:=List.all_eq_true.1 h s ha
 simpa using this
structure Apart (f g:List Nat×List Nat):Prop where
 wr:∀ s∈f.2,s∉g.1
 ww:∀ s∈f.2,s∉g.2
 rw:∀ s∈g.2,s∉f.1
theorem j8x {f g:List Nat×List Nat} (h:apart f g=true):Apart f g:=by
 simp only[apart,Bool.and_eq_true] at h
 exact⟨fun s hs=>q1p h.1.1 hs,fun s hs=>q1p h.1.2 hs,fun s hs=>q1p h.2 hs⟩
section
variable {R:Nat→ACode→St→Option (AEx×St)} {Γ:AProg} {base:Nat} {ts:Tmps}
theorem v8z {h h1 h2:List AObj} {ga gb:Nat} {a b:AOp} {va vb:AV} (ha:prim h base ga ts a=some (va,h1)) (hb:prim h1 base gb ts b=some (vb,h2)) (hp:Apart (z3l base ts a) (z3l base ts b)):
  ∃ k1,prim h base gb ts b=some (vb,k1)∧prim k1 base ga ts a=some (va,h2):=by
 have hoa:=z9x ha
 have hob:=z9x hb
 have s1:Same ((z3l base ts b).1++(z3l base ts b).2) h1 h:=fun s hs=>by
  refine hoa s fun hm=> ?_
  rcases List.mem_append.1 hs with hs | hs
  ·exact hp.wr s hm hs
  ·exact hp.ww s hm hs
 obtain⟨k1,hk1,s2⟩:=q5m s1 (fun s hs=>hs) hb
 have hok:=z9x hk1
 have s3:Same ((z3l base ts a).1++(z3l base ts a).2) h k1:=fun s hs=>by
  refine (hok s fun hm=> ?_).symm
  rcases List.mem_append.1 hs with hs | hs
  ·exact hp.rw s hm hs
  ·exact hp.ww s hs hm
 obtain⟨k2,hk2,s4⟩:=q5m s3 (fun s hs=>hs) ha
 have hoq:=z9x hk2
 refine⟨k1,hk1, ?_⟩
 rw[hk2]
 have:k2=h2:=by
  apply List.ext_getElem?
  intro x
  by_cases hx:x∈(z3l base ts a).2
  ·rw[←s4 x (List.mem_append_right _ hx),hob x (hp.ww x hx)]
  ·rw[hoq x hx]
   by_cases hy:x∈(z3l base ts b).2
   ·rw[←s2 x (List.mem_append_right _ hy)]
   ·rw[hok x hy,hob x hy,hoa x hx]
 rw[this]
theorem v9a {h h1 h2:List AObj} {ga c c2 f:Nat} {args:List AV} {a:AOp} {va vb:AV} (ha:prim h base ga ts a=some (va,h1)) (hb:z0o R Γ f args h1 c=some (vb,h2,c2)) (hp:Apart (z3l base ts a) (z3r (z1a Γ f args h1) h1 h2))
  (hbd:∀ s∈(z3l base ts a).1++(z3l base ts a).2,s < h.length):
  ∃ k1,z0o R Γ f args h c=some (vb,k1,c2)∧prim k1 base ga ts a=some (va,h2)∧z3r (z1a Γ f args h) h k1=z3r (z1a Γ f args h1) h1 h2:=by
 have hoa:=z9x ha
 have hla:=z6o ha
 have s1:Same (z1a Γ f args h1) h1 h:=fun s hs=>hoa s fun hm=>hp.wr s hm hs
 obtain⟨k1,hk1,al⟩:=x9b hla.symm s1 hb
 have hfe:=q5p hla.symm s1
 obtain⟨hl1,hob⟩:=q3p hb
 have hout:∀ s,s < h1.length→s∉(z3r (z1a Γ f args h1) h1 h2).2→h2[s]? =h1[s]? :=fun s hs hn=>q4q hs hl1 (hob s hs) hn
 have hold:∀ s,h1[s]? =h[s]? →h2[s]? =k1[s]? :=fun s he=>by
  by_cases hs:s < h1.length
  ·exact al.old s hs he
  ·exact (al.new s (by omega)).symm
 have hfoot:z3r (z1a Γ f args h) h k1=z3r (z1a Γ f args h1) h1 h2:=by
  rw[hfe]
  exact q8b (fun s hs=>(s1 s hs).symm) (fun s hs=>(hold s (s1 s hs)).symm)
 obtain⟨hl2,hok⟩:=q3p hk1
 rw[hfe] at hok
 have s3:Same ((z3l base ts a).1++(z3l base ts a).2) h k1:=fun s hs=>by
  have hlt:=hbd s hs
  refine (q4q hlt hl2 (hok s hlt) fun hm=> ?_).symm
  rw[←hfe,hfoot] at hm
  rcases List.mem_append.1 hs with hs | hs
  ·exact hp.rw s hm hs
  ·exact hp.ww s hs hm
 obtain⟨k2,hk2,s4⟩:=q5m s3 (fun s hs=>hs) ha
 have hoq:=z9x hk2
 refine⟨k1,hk1, ?_,hfoot⟩
 rw[hk2]
 have:k2=h2:=by
  apply List.ext_getElem?
  intro x
  by_cases hx:x∈(z3l base ts a).2
  ·have hlt:=hbd x (List.mem_append_right _ hx)
   rw[←s4 x (List.mem_append_right _ hx),hout x (by omega) (hp.ww x hx)]
  ·rw[hoq x hx]
   exact (hold x (hoa x hx)).symm
 rw[this]
theorem v9b {h h1 h2:List AObj} {gb c c1 f:Nat} {args:List AV} {b:AOp} {va vb:AV} (ha:z0o R Γ f args h c=some (va,h1,c1)) (hb:prim h1 base gb ts b=some (vb,h2)) (hp:Apart (z3r (z1a Γ f args h) h h1) (z3l base ts b))
  (hbd:∀ s∈(z3l base ts b).1++(z3l base ts b).2,s < h.length):
  ∃ k1,prim h base gb ts b=some (vb,k1)∧z0o R Γ f args k1 c=some (va,h2,c1)∧z3r (z1a Γ f args k1) k1 h2=z3r (z1a Γ f args h) h h1:=by
 obtain⟨hl1,hoa⟩:=q3p ha
 have hout:∀ s,s < h.length→s∉(z3r (z1a Γ f args h) h h1).2→h1[s]? =h[s]? :=fun s hs hn=>q4q hs hl1 (hoa s hs) hn
 have hob:=z9x hb
 have s1:Same ((z3l base ts b).1++(z3l base ts b).2) h1 h:=fun s hs=>by
  refine hout s (hbd s hs) fun hm=> ?_
  rcases List.mem_append.1 hs with hs | hs
  ·exact hp.wr s hm hs
  ·exact hp.ww s hm hs
 obtain⟨k1,hk1,s2⟩:=q5m s1 (fun s hs=>hs) hb
 have hok:=z9x hk1
 have hlk:=z6o hk1
 have hlb:=z6o hb
 have s3:Same (z1a Γ f args h) h k1:=fun s hs=>(hok s fun hm=>hp.rw s hm hs).symm
 obtain⟨k2,hk2,al⟩:=x9b hlk s3 ha
 have hfe:=q5p hlk s3
 obtain⟨hl2,hoq⟩:=q3p hk2
 rw[hfe] at hoq
 have hold:∀ s,h[s]? =k1[s]? →h1[s]? =k2[s]? :=fun s he=>by
  by_cases hs:s < h.length
  ·exact al.old s hs he
  ·exact (al.new s (by omega)).symm
 have:k2=h2:=by
  apply List.ext_getElem?
  intro x
  by_cases hx:x∈(z3l base ts b).2
  ·have hlt:=hbd x (List.mem_append_right _ hx)
   rw[hoq x (by omega) (hp.rw x hx),←s2 x (List.mem_append_right _ hx)]
  ·rw[←hold x (hok x hx).symm,hob x hx]
 subst this
 refine⟨k1,hk1,hk2, ?_⟩
 rw[hfe]
 exact q8b (fun s hs=>(s3 s hs).symm) (fun s hs=>(hold s (s3 s hs)).symm)
theorem y9n {t u:Todo} {h h1 h2:List AObj} {ga gb c c1 c2:Nat} {va vb:AV} (hnc:t.isCall=false∨u.isCall=false)
  (ha:doT (z0o R Γ) base ga ts h c t=some (va,h1,c1)) (hb:doT (z0o R Γ) base gb ts h1 c1 u=some (vb,h2,c2)) (hp:Apart (q4r Γ base ts h h1 t) (q4r Γ base ts h1 h2 u))
  (hbt:u.isCall=true→∀ s∈(q4r Γ base ts h h1 t).1++(q4r Γ base ts h h1 t).2,s < h.length) (hbu:t.isCall=true→∀ s∈(q4r Γ base ts h1 h2 u).1++(q4r Γ base ts h1 h2 u).2,s < h.length):
  ∃ k1 d1,doT (z0o R Γ) base gb ts h c u=some (vb,k1,d1)∧doT (z0o R Γ) base ga ts k1 d1 t=some (va,h2,c2)∧q4r Γ base ts h k1 u=q4r Γ base ts h1 h2 u∧q4r Γ base ts k1 h2 t=q4r Γ base ts h h1 t∧h.length≤k1.length:=by
 cases t with
 | prim a=>
   simp only[doT,Option.map_eq_some_iff,Prod.mk.injEq] at ha
   obtain⟨⟨va',h1'⟩,ha,rfl,rfl,rfl⟩:=ha
   cases u with
   | prim b=>
     simp only[doT,Option.map_eq_some_iff,Prod.mk.injEq] at hb
     obtain⟨⟨vb',h2'⟩,hb,rfl,rfl,rfl⟩:=hb
     obtain⟨k1,e1,e2⟩:=v8z ha hb hp
     exact⟨k1,c,by simp only[doT,e1,Option.map_some],by simp only[doT,e2,Option.map_some],rfl,rfl,by rw[z6o e1];exact Nat.le_refl _⟩
   | call f args=>
     obtain⟨k1,e1,e2,e3⟩:=v9a ha hb hp (hbt rfl)
     exact⟨k1,c2,e1,by simp only[doT,e2,Option.map_some],e3,rfl,(q3p e1).1⟩
 | call f args=>
   cases u with
   | call _ _=>simp[Todo.isCall] at hnc
   | prim b=>
     simp only[doT,Option.map_eq_some_iff,Prod.mk.injEq] at hb
     obtain⟨⟨vb',h2'⟩,hb,rfl,rfl,rfl⟩:=hb
     obtain⟨k1,e1,e2,e3⟩:=v9b ha hb hp (hbu rfl)
     exact⟨k1,c,by simp only[doT,e1,Option.map_some],e2,rfl,e3,by rw[z6o e1];exact Nat.le_refl _⟩
theorem x3t {ts:Tmps} {d:Option Nat} {v:AV} {l:List Nat} (h:∀ t,d=some t→t∉l):Agree l (z9n ts d v) ts:=fun t ht=>by
 cases d with
 | none=>rfl
 | some d=>
   have:t≠d:=fun e=>h d rfl (e ▸ ht)
   simp only[z9n,upd,if_neg this]
theorem k1y {ts:Tmps} {d e:Option Nat} {v u:AV} (h:∀ t,d=some t→e≠some t):z9n (z9n ts d v) e u=z9n (z9n ts e u) d v:=by
 cases d with
 | none=>rfl
 | some d=>
   cases e with
   | none=>rfl
   | some e=>
     have hne:e≠d:=fun he=>h d rfl (by rw[he])
     funext j
     simp only[z9n,upd]
     by_cases h1:j=e
     ·subst h1
      simp[hne]
     ·simp[h1]
theorem j8y {a b:AOper} (h:indep a b=true):(∀ t,a.dst=some t→t∉b.reads)∧(∀ t,a.dst=some t→b.dst≠some t)∧(∀ t,b.dst=some t→t∉a.reads):=by
 unfold indep at h
 simp only[Bool.and_eq_true] at h
 obtain⟨h1,h2⟩:=h
 refine⟨fun t ht=> ?_,fun t ht=> ?_,fun t ht=> ?_⟩
 ·rw[ht] at h1;simp at h1;exact h1.1
 ·rw[ht] at h1;simp at h1;exact h1.2
 ·rw[ht] at h2;simpa using h2
theorem k1z {a b:AOper} {s s1 s2:St} {ga gb:Nat} (ind:indep a b=true) (hnc:a.op.isCall=false∨b.op.isCall=false)
  (ha:stepA (z0o R Γ) base ga a s=some s1) (hb:stepA (z0o R Γ) base gb b s1=some s2) (hp:Apart (footOfK Γ base a s s1) (footOfK Γ base b s1 s2))
  (hbt:b.op.isCall=true→∀ x∈(footOfK Γ base a s s1).1++(footOfK Γ base a s s1).2,x < s.h.length) (hbu:a.op.isCall=true→∀ x∈(footOfK Γ base b s1 s2).1++(footOfK Γ base b s1 s2).2,x < s.h.length):
  ∃ k,stepA (z0o R Γ) base gb b s=some k∧stepA (z0o R Γ) base ga a k=some s2∧footOfK Γ base b s k=footOfK Γ base b s1 s2∧footOfK Γ base a k s2=footOfK Γ base a s s1∧s.h.length≤k.h.length:=by
 obtain⟨i1,i2,i3⟩:=j8y ind
 obtain⟨t,va,h1,c1,ht,hda,rfl,hfa⟩:=q0r ha
 obtain⟨u,vb,h2,c2,hu,hdb,rfl,hfb⟩:=q0r hb
 simp only at hu hdb hfb hp hbt hbu hb
 have hA:Agree b.reads (z9n s.ts a.dst va) s.ts:=x3t i1
 have hu':z9o s.ts b=some u:=by rw[←x3s hA];exact hu
 have hdb':doT (z0o R Γ) base gb s.ts h1 c1 u=some (vb,h2,c2):=by rw[←x9e hA hu];exact hdb
 rw[hfa,hfb,q1o hA hu] at hp
 rw[hfa] at hbt
 rw[hfb,q1o hA hu] at hbu
 obtain⟨k1,d1,e1,e2,e3,e4,e5⟩:=y9n (hnc.imp (z9y ht) (z9y hu)) hda hdb' hp (fun hc=>hbt (by
  cases hx:b.op.isCall with
  | true=>rfl
  | false=>rw[z9y hu hx] at hc;simp at hc)) (fun hc=>hbu (by
  cases hx:a.op.isCall with
  | true=>rfl
  | false=>rw[z9y ht hx] at hc;simp at hc))
 have hB:Agree a.reads (z9n s.ts b.dst vb) s.ts:=x3t i3
 have st1:=j5d (s:=s) hu' e1
 have ht':z9o (z9n s.ts b.dst vb) a=some t:=by rw[x3s hB];exact ht
 have st2:=j5d (C:=z0o R Γ) (base:=base) (gen:=ga) (s:=⟨z9n s.ts b.dst vb,k1,d1⟩) ht' (by rw[←x9e hB ht'] at e2;exact e2)
 have hc:z9n (z9n s.ts b.dst vb) a.dst va=z9n (z9n s.ts a.dst va) b.dst vb:=k1y fun t ht he=>i2 t he ht
 simp only at st2
 rw[hc] at st2
 refine⟨_,st1,st2, ?_, ?_,e5⟩
 ·obtain⟨u2,_,q1,_,hu2,_,he,hf2⟩:=q0r st1
  obtain rfl:k1=q1:=congrArg St.h he
  rw[hu'] at hu2
  simp only[Option.some.injEq] at hu2
  subst hu2
  rw[hf2,hfb,q1o hA hu]
  exact e3
 ·obtain⟨t2,_,q1,_,ht2,_,he,hf2⟩:=q0r st2
  obtain rfl:h2=q1:=congrArg St.h he
  simp only at ht2
  rw[ht'] at ht2
  simp only[Option.some.injEq] at ht2
  subst ht2
  rw[hf2,hfa]
  simp only
  rw[q1o hB ht']
  exact e4
end
end
section
def q8z (acc:Array Nat) (s:Nat) (e:Edge):Nat:=if Region.binds .any e then s ||| 2 ^ e.on ||| acc.getD e.on 0 else s
theorem x9f {acc:Array Nat} {i:Nat}:∀ {es:List Edge} {s:Nat},(es.foldl (q8z acc) s).testBit i=true→s.testBit i=true∨∃ e∈es,Region.binds .any e=true∧(e.on=i∨(acc.getD e.on 0).testBit i=true)
 | [],s,h=> .inl h
 | e::es,s,h=>by
   rw[List.foldl_cons] at h
   rcases x9f h with h | ⟨e',he',h'⟩
   ·unfold q8z at h
    split at h
    ·rename_i hb
     simp only[Nat.testBit_or,Bool.or_eq_true,Nat.testBit_two_pow,decide_eq_true_eq] at h
     rcases h with (h | h) | h
     ·exact .inl h
     ·exact .inr ⟨e,List.mem_cons_self,hb, .inl h⟩
     ·exact .inr ⟨e,List.mem_cons_self,hb, .inr h⟩
    ·exact .inl h
   ·exact .inr ⟨e',List.mem_cons_of_mem _ he',h'⟩
def z4t (acc:Array Nat) (o:Oper):Array Nat:=acc.push (o.after.toList.foldl (q8z acc) 0)
theorem k2a (ops:Array Oper):Region.before ops=ops.toList.foldl z4t #[]:=by
 unfold Region.before
 rw[←Array.foldl_toList]
 congr 1
 funext acc o
 unfold z4t
 rw[←Array.foldl_toList]
 rfl
theorem x9g {acc:Array Nat} {x i b:Nat} (h:(acc.getD i 0).testBit b=true):(acc.push x).getD i 0=acc.getD i 0:=by
 have hi:i < acc.size:=by
  apply Nat.lt_of_not_le
  intro hn
  rw[Array.getD_eq_getD_getElem?,Array.getElem?_eq_none hn] at h
  simp at h
 rw[Array.getD_eq_getD_getElem?,Array.getD_eq_getD_getElem?,Array.getElem?_push_lt hi,Array.getElem?_eq_getElem hi]
theorem v9c {α:Type} {p:List α→Prop} (h0:p []) (h1:∀ l a,p l→p (l++[a])) (l:List α):p l:=by
 have:∀ m:List α,p m.reverse:=fun m=>by
  induction m with
  | nil=>exact h0
  | cons a m ih=>rw[List.reverse_cons];exact h1 _ _ ih
 have h2:=this l.reverse
 rwa [List.reverse_reverse] at h2
theorem k2b (l:List Oper):(l.foldl z4t #[]).size=l.length∧∀ j i,((l.foldl z4t #[]).getD j 0).testBit i=true→∃ o,l[j]? =some o∧∃ e∈o.after.toList,Region.binds .any e=true∧(e.on=i∨((l.foldl z4t #[]).getD e.on 0).testBit i=true):=by
 induction l using v9c with
 | h0=>exact⟨rfl,fun j i h=>by simp at h⟩
 | h1 l o ih=>
   obtain⟨h1,h2⟩:=ih
   rw[List.foldl_append,List.foldl_cons,List.foldl_nil]
   generalize l.foldl z4t #[]=B at *
   refine⟨by simp[z4t,h1],fun j i h=> ?_⟩
   by_cases hj:j < l.length
   ·have hg:(z4t B o).getD j 0=B.getD j 0:=by
     unfold z4t
     rw[Array.getD_eq_getD_getElem?,Array.getD_eq_getD_getElem?,Array.getElem?_push_lt (by omega),Array.getElem?_eq_getElem (by omega)]
    rw[hg] at h
    obtain⟨o',ho',e,he,hb,h3⟩:=h2 j i h
    refine⟨o',by rw[List.getElem?_append_left hj];exact ho',e,he,hb,h3.imp id fun h3=> ?_⟩
    unfold z4t
    rw[x9g h3]
    exact h3
   ·by_cases hj2:j=l.length
    ·subst hj2
     have hg:(z4t B o).getD l.length 0=o.after.toList.foldl (q8z B) 0:=by
      unfold z4t
      rw[Array.getD_eq_getD_getElem?,←h1,Array.getElem?_push_size]
      rfl
     rw[hg] at h
     rcases x9f h with h | ⟨e,he,hb,h3⟩
     ·simp at h
     ·refine⟨o,by simp,e,he,hb,h3.imp id fun h3=> ?_⟩
      unfold z4t
      rw[x9g h3]
      exact h3
    ·rw[Array.getD_eq_getD_getElem?,Array.getElem?_eq_none (by simp[z4t];omega)] at h
     simp at h
theorem j2h {ops:Array Oper} {j i:Nat} (h:((Region.before ops).toList.getD j 0).testBit i=true):
  ∃ o,ops[j]? =some o∧∃ e∈o.after.toList,Region.binds .any e=true∧(e.on=i∨((Region.before ops).toList.getD e.on 0).testBit i=true):=by
 have conv:∀ k,(Region.before ops).toList.getD k 0=(ops.toList.foldl z4t #[]).getD k 0:=fun k=>by
  rw[k2a]
  simp[List.getD,Array.getD_eq_getD_getElem?]
 rw[conv] at h
 obtain⟨o,ho,e,he,hb,h3⟩:=(k2b ops.toList).2 j i h
 exact⟨o,by simpa using ho,e,he,hb,h3.imp id fun h3=>by rw[conv];exact h3⟩
theorem q8c:∀ {os:List Oper} {j0:Nat},q6q j0 os=true→∀ (j:Nat) o,os[j]? =some o→∀ e∈o.after.toList,Region.binds .any e=true→e.on < j0 + j
 | [],_,_,j,o,ho=>by simp at ho
 | x::os,j0,h,j,o,ho=>by
   simp only[q6q,Bool.and_eq_true] at h
   cases j with
   | zero=>
     simp at ho
     subst ho
     intro e he hb
     have:=List.all_eq_true.1 h.1 e he
     rw[hb] at this
     simpa using this
   | succ j=>
     intro e he hb
     have:=q8c h.2 j o (by simpa using ho) e he hb
     omega
theorem x0i {bj j cj:Nat}:∀ {os:List AOper} {i0 p:Nat} {o:AOper},os[p]? =some o→i0 + p < j→bj.testBit (i0 + p)=false→z3s o.op≠0→cj≠0→(z3s o.op=2∨cj=2)→(i0 + p,j)∈q9i bj j cj i0 os
 | [],_,p,o,h,_,_,_,_,_=>by simp at h
 | x::os,i0,p,o,h,h1,h2,h3,h4,h5=>by
   simp only[q9i,List.mem_append]
   cases p with
   | zero=>
     simp at h
     subst h
     left
     rw[Nat.add_zero] at h1 h2
     rw[if_pos ⟨h1,by rw[h2];rfl,by omega,h3,h4,h5⟩]
     simp
   | succ p=>
     right
     have:=x0i (bj:=bj) (j:=j) (cj:=cj) (os:=os) (i0:=i0 + 1) (p:=p) (o:=o) (by simpa using h) (by omega) (by rw[show i0 + 1 + p=i0 + (p + 1) by omega];exact h2) h3 h4 h5
     rw[show i0 + 1 + p=i0 + (p + 1) by omega] at this
     exact this
theorem x0j {bs:List Nat} {all:List AOper} {x:Nat×Nat}:∀ {os:List AOper} {j0 q:Nat} {o:AOper},os[q]? =some o→x∈q9i (bs.getD (j0 + q) 0) (j0 + q) (z3s o.op) 0 all→x∈q2j bs all j0 os
 | [],_,q,o,h,_=>by simp at h
 | y::os,j0,q,o,h,hx=>by
   simp only[q2j,List.mem_append]
   cases q with
   | zero=>
     simp at h
     subst h
     exact .inl hx
   | succ q=>
     right
     refine x0j (q:=q) (o:=o) (by simpa using h) ?_
     rw[show j0 + 1 + q=j0 + (q + 1) by omega]
     exact hx
theorem q8d {bj j:Nat} {o:AOper}:∀ {os:List AOper} {i0 p:Nat} {x:AOper},q9j bj j o i0 os=true→os[p]? =some x→i0 + p < j→bj.testBit (i0 + p)=false→indep x o=true
 | [],_,p,x,_,h,_,_=>by simp at h
 | y::os,i0,p,x,hi,h,h1,h2=>by
   simp only[q9j,Bool.and_eq_true] at hi
   cases p with
   | zero=>
     simp at h
     subst h
     have:=hi.1
     simp only[Nat.add_zero] at h1 h2
     simp[h1,h2] at this
     exact this
   | succ p=>exact q8d hi.2 (p:=p) (by simpa using h) (by omega) (by rw[show i0 + 1 + p=i0 + (p + 1) by omega];exact h2)
theorem q8e {bs:List Nat} {all:List AOper}:∀ {os:List AOper} {j0 q:Nat} {o:AOper},q9k bs all j0 os=true→os[q]? =some o→q9j (bs.getD (j0 + q) 0) (j0 + q) o 0 all=true
 | [],_,q,o,_,h=>by simp at h
 | y::os,j0,q,o,hi,h=>by
   simp only[q9k,Bool.and_eq_true] at hi
   cases q with
   | zero=>
     simp at h
     subst h
     exact hi.1
   | succ q=>
     have:=q8e hi.2 (q:=q) (by simpa using h)
     rw[show j0 + 1 + q=j0 + (q + 1) by omega] at this
     exact this
theorem q5q {Γ:AProg} {base:Nat} {o:AOper} {s s':St} (h:z3s o.op=0):footOfK Γ base o s s'=([],[]):=by
 unfold footOfK
 split
 ·obtain⟨d,op,g⟩:=o
  cases op <;> simp[z3s] at h <;> rfl
 ·rfl
theorem q5r {Γ:AProg} {base:Nat} {o:AOper} {s s':St} (h:z3s o.op=1):(footOfK Γ base o s s').2=[]:=by
 unfold footOfK
 split
 ·obtain⟨d,op,g⟩:=o
  cases op <;> simp[z3s] at h <;> rfl
 ·rfl
theorem z5k {op:AOp} (h:op.isCall=true):z3s op=2:=by
 cases op <;> simp[AOp.isCall] at h <;> rfl
theorem x3u (op:AOp):z3s op=0∨z3s op=1∨z3s op=2:=by
 cases op <;> simp[z3s]
section
variable {R:Nat→ACode→St→Option (AEx×St)} {Γ:AProg} {base clk0:Nat} {asx:List AOper} {fs:Nat→List Nat×List Nat}
inductive Runs (C:Caller) (Γ:AProg) (base clk0:Nat) (asx:List AOper) (fs:Nat→List Nat×List Nat):List Nat→St→St→Prop
 | nil (s:St):Runs C Γ base clk0 asx fs [] s s
 | cons {i:Nat} {o:AOper} {is:List Nat} {s s1 s2:St}:asx[i]? =some o→stepA C base (clk0 + i) o s=some s1→footOfK Γ base o s s1=fs i→Runs C Γ base clk0 asx fs is s1 s2→Runs C Γ base clk0 asx fs (i::is) s s2
structure PairOk (asx:List AOper) (fs:Nat→List Nat×List Nat) (N i j:Nat):Prop where
 ind:∀ a b,asx[i]? =some a→asx[j]? =some b→indep a b=true
 calls:∀ a b,asx[i]? =some a→asx[j]? =some b→a.op.isCall=false∨b.op.isCall=false
 apart:Apart (fs i) (fs j)
 left:∀ b,asx[j]? =some b→b.op.isCall=true→∀ x∈(fs i).1++(fs i).2,x < N
 right:∀ a,asx[i]? =some a→a.op.isCall=true→∀ x∈(fs j).1++(fs j).2,x < N
theorem x9h {gen:Nat} {o:AOper} {s s':St} (h:stepA (z0o R Γ) base gen o s=some s'):s.h.length≤s'.h.length:=by
 obtain⟨t,v,h1,c,_,hd,rfl,_⟩:=q0r h
 cases t with
 | prim op=>
   simp only[doT,Option.map_eq_some_iff,Prod.mk.injEq] at hd
   obtain⟨⟨v',h'⟩,hd,rfl,rfl,rfl⟩:=hd
   rw[z6o hd]
   exact Nat.le_refl _
 | call f args=>exact (q3p hd).1
theorem Runs.bubble {N j:Nat} {l2:List Nat} {s':St}:∀ {l1:List Nat} {s:St},Runs (z0o R Γ) Γ base clk0 asx fs (l1++j::l2) s s'→(∀ i∈l1,PairOk asx fs N i j)→N≤s.h.length→Runs (z0o R Γ) Γ base clk0 asx fs (j::(l1++l2)) s s'
 | [],s,h,_,_=>h
 | i::l1,s,h,hp,hN=>by
   cases h with
   | cons ha hst hf hr=>
     rename_i a s1
     have hlen:=x9h hst
     have:=Runs.bubble hr (fun k hk=>hp k (List.mem_cons_of_mem _ hk)) (by omega)
     cases this with
     | cons hb hst2 hf2 hr2=>
       rename_i b s2
       have hpk:=hp i List.mem_cons_self
       obtain⟨k,e1,e2,e3,e4,e5⟩:=k1z (hpk.ind a b ha hb) (hpk.calls a b ha hb) hst hst2 (by rw[hf,hf2];exact hpk.apart)
        (fun hc x hx=>Nat.lt_of_lt_of_le (hpk.left b hb hc x (by rw[←hf];exact hx)) hN) (fun hc x hx=>Nat.lt_of_lt_of_le (hpk.right a ha hc x (by rw[←hf2];exact hx)) hN)
       exact .cons hb e1 (by rw[e3,hf2]) (.cons ha e2 (by rw[e4,hf]) hr2)
theorem Runs.foot {C:Caller}:∀ {l:List Nat} {s s':St},Runs C Γ base clk0 asx fs l s s'→∀ i∈l,∃ o s1 s2,asx[i]? =some o∧fs i=footOfK Γ base o s1 s2
 | [],_,_,_,i,hi=>by simp at hi
 | k::l,s,s',h,i,hi=>by
   cases h with
   | cons ha hst hf hr=>
     rename_i o s1
     rcases List.mem_cons.1 hi with rfl | hi
     ·exact⟨o,s,s1,ha,hf.symm⟩
     ·exact Runs.foot hr i hi
theorem q4b {C:Caller}:∀ {os:List AOper} {g:Nat} {s s':St},z8x C base g os s=some s'→∃ l,z3g C Γ base g os s=some (s',l)
 | [],g,s,s',h=>by
   simp only[z8x,Option.some.injEq] at h
   subst h
   exact⟨[],rfl⟩
 | o::os,g,s,s',h=>by
   simp only[z8x] at h
   split at h
   ·rename_i s1 hs
    obtain⟨l,hl⟩:=q4b h
    exact⟨_,by simp only[z3g,hs,hl,Option.map_some];rfl⟩
   ·simp at h
theorem q2o {C:Caller}:∀ {os:List AOper} {j:Nat} {s s':St} {l:List (List Nat×List Nat)},os=asx.drop j→z3g C Γ base (clk0 + j) os s=some (s',l)→(∀ (i:Nat) f,l[i]? =some f→fs (j + i)=f)→
  Runs C Γ base clk0 asx fs (List.range' j os.length) s s'∧l.length=os.length
 | [],j,s,s',l,ho,h,hf=>by
   simp only[z3g,Option.some.injEq,Prod.mk.injEq] at h
   obtain⟨rfl,rfl⟩:=h
   exact⟨.nil _,rfl⟩
 | o::os,j,s,s',l,ho,h,hf=>by
   simp only[z3g] at h
   split at h
   ·rename_i s1 hs
    simp only[Option.map_eq_some_iff,Prod.mk.injEq] at h
    obtain⟨⟨s2,l'⟩,hr,rfl,rfl⟩:=h
    have hao:asx[j]? =some o:=by
     have:(asx.drop j)[0]? =some o:=by rw[←ho];rfl
     simpa using this
    have hd:os=asx.drop (j + 1):=by
     have:(o::os).tail=(asx.drop j).tail:=by rw[ho]
     simpa [List.tail_drop] using this
    obtain⟨h1,h2⟩:=q2o (j:=j + 1) hd (by rw[←Nat.add_assoc];exact hr) (fun i f hi=>by
     have:=hf (i + 1) f (by simpa using hi)
     rw[←this];congr 1;omega)
    refine⟨?_,by simp[h2]⟩
    rw[List.length_cons,List.range'_succ]
    refine .cons hao hs ?_ h1
    have:=hf 0 _ rfl
    rw[Nat.add_zero] at this
    rw[this]
    rfl
   ·simp at h
end
end
section
variable {P:Program} {G:Ghost} {I:Imm} {h:List AObj} {w:World}
theorem x0k {ops:Array Oper} {listed:Array Bool} (hsz:listed.size=ops.size) {i:Nat}:i∈Region.ready .any ops listed↔i < ops.size∧listed.getD i false=false∧∃ o,ops[i]? =some o∧∀ e∈o.after.toList,Region.binds .any e=true→listed.getD e.on false=true:=by
 unfold Region.ready
 rw[List.mem_filter,List.mem_range]
 constructor
 ·rintro ⟨hi,h⟩
  simp only[Bool.and_eq_true,Bool.not_eq_true'] at h
  obtain⟨h1,h2⟩:=h
  refine⟨hi, ?_,ops[i],Array.getElem?_eq_getElem hi,fun e he hb=> ?_⟩
  ·rw[Array.getD_eq_getD_getElem?,Array.getElem?_eq_getElem (by omega)] at h1⊢
   exact h1
  ·rw[Array.getElem?_eq_getElem hi] at h2
   simp only[Option.map_some,Option.getD_some] at h2
   have h3:=Array.all_eq_true'.1 h2 e (by simpa using he)
   rw[hb] at h3
   simpa using h3
 ·rintro ⟨hi,h1,o,ho,h2⟩
  refine⟨hi, ?_⟩
  simp only[Bool.and_eq_true,Bool.not_eq_true']
  constructor
  ·rw[Array.getD_eq_getD_getElem?,Array.getElem?_eq_getElem (by omega)] at h1⊢
   exact h1
  ·rw[ho]
   simp only[Option.map_some,Option.getD_some]
   refine Array.all_eq_true'.2 fun e he=> ?_
   cases hb:Region.binds .any e with
   | false=>rfl
   | true=>simpa using h2 e (by simpa using he) hb
theorem j5e {listed:Array Bool} {i j:Nat} (hi:i < listed.size):(listed.setIfInBounds i true).getD j false=if j=i then true else listed.getD j false:=by
 rw[Array.getD_eq_getD_getElem?,Array.getD_eq_getD_getElem?,Array.getElem?_setIfInBounds]
 by_cases h:i=j
 ·subst h
  simp[hi]
 ·simp[h,Ne.symm h]
theorem Ran.drew {base clk:Nat} {G':Ghost} {I':Imm} {h':List AObj} {w w':World} {d:Nat} (r:Ran base clk G I h {w with drawn:=d} G' I' h' w'):Ran base clk G I h w G' I' h' w':=
 ⟨r.rel,r.gle,r.ile,r.slots,r.own,⟨r.fr.os,r.fr.tape,r.fr.output,r.fr.size,r.fr.kept⟩,r.ifr⟩
theorem Rel.drew {w:World} {d:Nat} (r:Rel G I h w):Rel G I h {w with drawn:=d}:=r.world fun _ _ hx=>hx
theorem w6v {R:Nat→ACode→St→Option (AEx×St)} {Γ:AProg} {back:Nat→Option Nat} {nt B base clk0 N:Nat} {mu:Nat→Bool} {al:Nat→Nat} {ops:Array Oper} {asx:List AOper} {fs:Nat→List Nat×List Nat}
  (hC:q5j P (z0o R Γ)) (hB:q2d P back) (m:MadeAll P back nt mu al ops asx) (hedge:q6q 0 ops.toList=true)
  (hpair:∀ i j,i < j→j < ops.size→((Region.before ops).toList.getD j 0).testBit i=false→PairOk asx fs N i j):
  ∀ (fuel:Nat) (l:List Nat) (listed:Array Bool) (s s':St) (G:Ghost) (I:Imm) (w:World) (a:Act),l.length≤fuel→listed.size=ops.size→l.Pairwise (· < ·)→(∀ i,i∈l↔i < ops.size∧listed.getD i false=false)→
    (∀ j,listed.getD j false=true→∀ i,((Region.before ops).toList.getD j 0).testBit i=true→listed.getD i false=true)→
    Runs (z0o R Γ) Γ base clk0 asx fs l s s'→N≤s.h.length→Live nt B G I s a w→w6h (fun g=>∃ k∈l,g=clk0 + k) G s.clk→clk0 + ops.size≤s.clk→base≤s.h.length→
    ∀ (r:Option Nat) (q:Nat) (Q:Exit→Act→World→Prop),Came base nt B clk0 G I s w s' (Q .normal)→wpAnyIn (q8a r) q P .any ops Q fuel listed a w:=by
 intro fuel
 induction fuel with
 | zero=>
   intro l listed s s' G I w a hlen hsz hord hmem hdown hruns hN hl hK hclk hb r q Q hQ
   have:l=[]:=List.length_eq_zero_iff.1 (by omega)
   subst this
   cases hruns
   refine⟨List.eq_nil_iff_forall_not_mem.2 fun i hi=> ?_,hQ a w G I hl (Ran.refl hl.rel) (fun g hg=>hK g (.inr hg)) (Nat.le_refl _) (Nat.le_refl _)⟩
   have:=(x0k hsz).1 hi
   have:=(hmem i).2 ⟨this.1,this.2.1⟩
   simp at this
 | succ fuel ih=>
   intro l listed s s' G I w a hlen hsz hord hmem hdown hruns hN hl hK hclk hb r q Q hQ
   refine⟨fun hr0=> ?_,fun i hi=> ?_⟩
   ·have hnil:l=[]:=by
     cases l with
     | nil=>rfl
     | cons k l=>
       exfalso
       have hk:=(hmem k).1 List.mem_cons_self
       have:k∈Region.ready .any ops listed:=by
        refine (x0k hsz).2 ⟨hk.1,hk.2,ops[k],Array.getElem?_eq_getElem hk.1,fun e he hbd=> ?_⟩
        have hlt:=q8c hedge k ops[k] (by simp) e he hbd
        cases hx:listed.getD e.on false with
        | true=>rfl
        | false=>
          exfalso
          have hin:=(hmem e.on).2 ⟨by omega,hx⟩
          rcases List.mem_cons.1 hin with heq | hin
          ·omega
          ·have:=List.rel_of_pairwise_cons hord hin
           omega
       rw[hr0] at this
       simp at this
    subst hnil
    cases hruns
    exact hQ a w G I hl (Ran.refl hl.rel) (fun g hg=>hK g (.inr hg)) (Nat.le_refl _) (Nat.le_refl _)
   ·obtain⟨hi1,hi2,o,ho,hedges⟩:=(x0k hsz).1 hi
    have hil:=(hmem i).2 ⟨hi1,hi2⟩
    obtain⟨l1,l2,rfl⟩:=List.append_of_mem hil
    have hbits:∀ k,((Region.before ops).toList.getD i 0).testBit k=true→listed.getD k false=true:=fun k hk=>by
     obtain⟨o',ho',e,he,hbd,h3⟩:=j2h hk
     rw[ho] at ho'
     simp only[Option.some.injEq] at ho'
     subst ho'
     have hon:=hedges e he hbd
     rcases h3 with rfl | h3
     ·exact hon
     ·exact hdown e.on hon k h3
    have hlow:∀ k∈l1,k < i:=fun k hk=>(List.pairwise_append.1 hord).2.2 k hk i List.mem_cons_self
    have hb1:=hruns.bubble (fun k hk=>hpair k i (hlow k hk) hi1 (by
     cases hx:((Region.before ops).toList.getD i 0).testBit k with
     | false=>rfl
     | true=>
       have h1:=hbits k hx
       have h2:=((hmem k).1 (List.mem_append_left _ hk)).2
       rw[h1] at h2
       simp at h2)) hN
    cases hb1 with
    | cons hao hst hft hrest=>
      rename_i ao s1
      obtain⟨ao',n,hao',hm⟩:=m.made i o ho
      rw[hao] at hao'
      simp only[Option.some.injEq] at hao'
      subst hao'
      have hnd:l1++i::l2=l1++i::l2:=rfl
      have hne:∀ k∈l1++l2,k≠i:=fun k hk he=>by
       subst he
       rcases List.mem_append.1 hk with hk | hk
       ·exact Nat.lt_irrefl _ (hlow k hk)
       ·have:=(List.pairwise_append.1 hord).2.1
        exact Nat.lt_irrefl _ (List.rel_of_pairwise_cons this hk)
      have hmem':∀ k,k∈l1++l2↔k∈l1++i::l2∧k≠i:=fun k=>by
       constructor
       ·intro hk
        refine⟨?_,hne k hk⟩
        simp only[List.mem_append,List.mem_cons] at hk⊢
        rcases hk with hk | hk
        ·exact .inl hk
        ·exact .inr (.inr hk)
       ·rintro ⟨hk,hki⟩
        simp only[List.mem_append,List.mem_cons] at hk⊢
        rcases hk with hk | hk | hk
        ·exact .inl hk
        ·exact absurd hk hki
        ·exact .inr hk
      have hstep:=k1q (r:=r) (k:=q) (Q:=Q) (K:=wpAnyIn (q8a r) q P .any ops Q fuel (listed.setIfInBounds i true)) (lo:=clk0) (gen:=clk0 + i) (U:=fun g=>∃ k∈l1++i::l2,g=clk0 + k) hC hB hm hl
       (fun j t hj=>Nat.lt_of_lt_of_le (m.dst j t hj) hl.size) hst ⟨i,hil,rfl⟩ (fun g hg=>by
        obtain⟨k,hk,rfl⟩:=hg
        have:=((hmem k).1 hk).1
        omega) hK (by omega) (by omega) hb (fun a1 w1 G1 I1 hl1 hran hK1 hc1 hlen1 hsz1=>by
        refine ih (l1++l2) (listed.setIfInBounds i true) s1 s' G1 I1 w1 a1 ?_ (by rw[Array.size_setIfInBounds];exact hsz) ?_ (fun k=> ?_) (fun j hj k hk=> ?_) hrest (by omega) hl1 (fun g hg=>hK1 g ?_) (by omega) (by omega) r q Q fun a2 w2 G2 I2 hl2 hran2 hf2 hc2 hlen2=> ?_
        ·simp only[List.length_append,List.length_cons] at hlen⊢
         omega
        ·refine List.Pairwise.sublist ?_ hord
         exact List.Sublist.append_left (List.sublist_cons_self _ _) _
        ·rw[hmem' k,hmem k,j5e (by omega)]
         by_cases hki:k=i
         ·simp[hki]
         ·simp[hki]
        ·rw[j5e (by omega)] at hj⊢
         split
         ·rfl
         ·split at hj
          ·rename_i hji
           subst hji
           exact hbits k hk
          ·exact hdown j hj k hk
        ·rcases hg with ⟨k,hk,rfl⟩ | hg
         ·refine .inl ⟨⟨k,((hmem' k).1 hk).1,rfl⟩, ?_⟩
          have:=hne k hk
          omega
         ·exact .inr hg
        ·exact hQ a2 w2 G2 I2 hl2 (hran.trans hran2 (Nat.le_refl _) (Nat.le_refl _)) hf2 (by omega) (by omega))
      unfold wpOpIn
      rw[ho]
      simp only
      split
      ·rename_i hw
       rw[if_pos hw] at hstep
       exact hstep
      ·rename_i hw
       rw[if_neg hw] at hstep
       exact hstep
theorem j2i {back:Nat→Option Nat} (hm:P.follows .mixedOrders=true):x9a P back:=by
 intro Γ k nt B base mu al id ops asx hC hB m hind hcalls hedge s s' G I w a hr hl hf hb r q Q hQ
 refine wpIn_region_any hm ?_
 have hlen:=m.len
 have start:∃ fs:Nat→List Nat×List Nat,Runs (z0o (z4a Γ k) Γ) Γ base s.clk asx fs (List.range' 0 asx.length) {s with clk:=s.clk + asx.length} s'∧
   ∀ i j,i < j→j < ops.size→((Region.before ops).toList.getD j 0).testBit i=false→(i,j)∈q2j (Region.before ops).toList asx 0 asx→Apart (fs i) (fs j)∧(z0z asx i=true∨z0z asx j=true→(∀ x∈(fs i).1++(fs i).2,x < s.h.length)∧(∀ x∈(fs j).1++(fs j).2,x < s.h.length)):=by
  unfold region at hr
  split at hr
  ·rename_i hps
   obtain⟨l,hl'⟩:=q4b (Γ:=Γ) hr
   refine⟨fun i=>l.getD i ([],[]),(q2o (j:=0) rfl (by simpa using hl') fun i f hi=>by simp[List.getD,hi]).1,fun i j _ _ _ hmem=> ?_⟩
   rw[hps] at hmem
   simp at hmem
  ·split at hr
   ·rename_i s1 l hl'
    split at hr
    ·rename_i hchk
     simp only[Option.some.injEq] at hr
     subst hr
     obtain⟨hR,hL⟩:=q2o (fs:=fun i=>l.getD i ([],[])) (j:=0) rfl (by simpa using hl') fun i f hi=>by simp[List.getD,hi]
     refine⟨fun i=>l.getD i ([],[]),hR,fun i j hij hj _ hmem=> ?_⟩
     have hc:=List.all_eq_true.1 hchk (i,j) hmem
     simp only[Bool.and_eq_true,Bool.or_eq_true,Bool.not_eq_true',Bool.or_eq_false_iff] at hc
     refine⟨j8x hc.1,fun hcall=> ?_⟩
     rcases hc.2 with h1 | h1
     ·rcases hcall with h2 | h2
      ·rw[h1.1] at h2;simp at h2
      ·rw[h1.2] at h2;simp at h2
     ·refine⟨fun x hx=> ?_,fun x hx=> ?_⟩
      ·simpa using List.all_eq_true.1 h1 x (List.mem_append_left _ hx)
      ·simpa using List.all_eq_true.1 h1 x (List.mem_append_right _ hx)
    ·simp at hr
   ·simp at hr
 obtain⟨fs,hruns,hap⟩:=start
 have hat:∀ i,i < ops.size→∃ o,asx[i]? =some o:=fun i hi=>⟨asx[i],List.getElem?_eq_getElem (by omega)⟩
 have hfoot:∀ i o,i < ops.size→asx[i]? =some o→∃ s1 s2,fs i=footOfK Γ base o s1 s2:=fun i o hi ho=>by
  obtain⟨o',s1,s2,ho',h⟩:=hruns.foot i (by simp only[List.mem_range'_1];omega)
  rw[ho] at ho'
  simp only[Option.some.injEq] at ho'
  subst ho'
  exact⟨s1,s2,h⟩
 have hpair:∀ i j,i < j→j < ops.size→((Region.before ops).toList.getD j 0).testBit i=false→PairOk asx fs s.h.length i j:=by
  intro i j hij hj hbit
  obtain⟨x,hx⟩:=hat i (by omega)
  obtain⟨y,hy⟩:=hat j hj
  obtain⟨x1,x2,hfx⟩:=hfoot i x (by omega) hx
  obtain⟨y1,y2,hfy⟩:=hfoot j y hj hy
  have hI:indep x y=true:=by
   have:=q8e hind (q:=j) (o:=y) hy
   rw[Nat.zero_add] at this
   exact q8d this (p:=i) hx (by omega) (by rw[Nat.zero_add];exact hbit)
  have mk:(x.op.isCall=false∨y.op.isCall=false)→Apart (fs i) (fs j)→(y.op.isCall=true→∀ z∈(fs i).1++(fs i).2,z < s.h.length)→(x.op.isCall=true→∀ z∈(fs j).1++(fs j).2,z < s.h.length)→PairOk asx fs s.h.length i j:=fun h1 h2 h3 h4=>by
   refine⟨fun a b ha hb=> ?_,fun a b ha hb=> ?_,h2,fun b hb=> ?_,fun a ha=> ?_⟩
   ·rw[hx] at ha;rw[hy] at hb
    simp only[Option.some.injEq] at ha hb
    subst ha hb
    exact hI
   ·rw[hx] at ha;rw[hy] at hb
    simp only[Option.some.injEq] at ha hb
    subst ha hb
    exact h1
   ·rw[hy] at hb
    simp only[Option.some.injEq] at hb
    subst hb
    exact h3
   ·rw[hx] at ha
    simp only[Option.some.injEq] at ha
    subst ha
    exact h4
  by_cases c1:z3s x.op=0
  ·have he:fs i=([],[]):=by rw[hfx];exact q5q c1
   refine mk (.inl ?_) (by rw[he];exact⟨fun s hs=>by simp at hs,fun s hs=>by simp at hs,fun s _=>by simp⟩) (fun _ z hz=>by rw[he] at hz;simp at hz) (fun hc=>by rw[z5k hc] at c1;simp at c1)
   cases hc:x.op.isCall with
   | false=>rfl
   | true=>rw[z5k hc] at c1;simp at c1
  by_cases c2:z3s y.op=0
  ·have he:fs j=([],[]):=by rw[hfy];exact q5q c2
   refine mk (.inr ?_) (by rw[he];exact⟨fun s _=>by simp,fun s _=>by simp,fun s hs=>by simp at hs⟩) (fun hc=>by rw[z5k hc] at c2;simp at c2) (fun _ z hz=>by rw[he] at hz;simp at hz)
   cases hc:y.op.isCall with
   | false=>rfl
   | true=>rw[z5k hc] at c2;simp at c2
  by_cases c3:z3s x.op=2∨z3s y.op=2
  ·have hmem:(i,j)∈q2j (Region.before ops).toList asx 0 asx:=by
    refine x0j (q:=j) (o:=y) hy ?_
    rw[Nat.zero_add]
    have:=x0i (bj:=(Region.before ops).toList.getD j 0) (j:=j) (cj:=z3s y.op) (os:=asx) (i0:=0) (p:=i) (o:=x) hx (by omega) (by rw[Nat.zero_add];exact hbit) c1 c2 c3
    rwa [Nat.zero_add] at this
   obtain⟨h1,h2⟩:=hap i j hij hj hbit hmem
   have hci:x.op.isCall=true→z0z asx i=true:=fun hc=>by simp[z0z,hx,hc]
   have hcj:y.op.isCall=true→z0z asx j=true:=fun hc=>by simp[z0z,hy,hc]
   refine mk ?_ h1 (fun hc=>(h2 (.inr (hcj hc))).1) (fun hc=>(h2 (.inl (hci hc))).2)
   have:=List.all_eq_true.1 hcalls (i,j) hmem
   simp only[hx,hy,Option.map_some,Option.getD_some,Bool.not_eq_true',Bool.and_eq_false_iff] at this
   exact this
  ·have e1:z3s x.op=1:=by rcases x3u x.op with h | h | h <;> omega
   have e2:z3s y.op=1:=by rcases x3u y.op with h | h | h <;> omega
   have g1:(fs i).2=[]:=by rw[hfx];exact q5r e1
   have g2:(fs j).2=[]:=by rw[hfy];exact q5r e2
   refine mk (.inl ?_) ⟨fun s hs=>by rw[g1] at hs;simp at hs,fun s hs=>by rw[g1] at hs;simp at hs,fun s hs=>by rw[g2] at hs;simp at hs⟩ (fun hc=>by rw[z5k hc] at e2;simp at e2) (fun hc=>by rw[z5k hc] at e1;simp at e1)
   cases hc:x.op.isCall with
   | false=>rfl
   | true=>rw[z5k hc] at e1;simp at e1
 have hl':Live nt B G I {s with clk:=s.clk + asx.length} a {w with drawn:=w.drawn + 1}:=⟨hl.bnd,hl.dfr,hl.size,hl.tmps,hl.rel.drew⟩
 refine w6v (N:=s.h.length) (clk0:=s.clk) hC hB m hedge hpair ops.size (List.range' 0 asx.length) (Array.replicate ops.size false) _ s' G I _ a (by simp[hlen]) (by simp) ?_ (fun i=> ?_) (fun j hj=> ?_) hruns (Nat.le_refl _) hl' (fun g hg=>hf g ?_) (by
   show s.clk + ops.size≤s.clk + asx.length
   omega) hb r q Q fun a' w' G' I' h1 h2 h3 h4 h5=>hQ a' w' G' I' h1 h2.drew h3 (by
   have:s.clk + asx.length≤s'.clk:=h4
   omega) h5
 ·exact List.pairwise_lt_range'
 ·rw[List.mem_range'_1,hlen]
  have:(Array.replicate ops.size false).getD i false=false:=by
   rw[Array.getD_eq_getD_getElem?,Array.getElem?_replicate]
   split <;> rfl
  simp[this]
 ·have:(Array.replicate ops.size false).getD j false=false:=by
   rw[Array.getD_eq_getD_getElem?,Array.getElem?_replicate]
   split <;> rfl
  rw[this] at hj
  simp at hj
 ·rcases hg with ⟨k,_,rfl⟩ | hg
  ·omega
  ·have:s.clk + asx.length≤g:=hg
   omega
end
theorem q3q {G G':Ghost}:j2c G G' 0:=by
 intro g i h1 h2
 exact absurd h2 (Nat.not_lt_zero _)
def told (P:Program) (f:Nat) (sem:List AV→Option AV):Prop:=∀ az v,sem az=some v→∀ G I w (cargs:Array Value),VRL G I az cargs.toList→(∀ b o v,I b o=some v→w.cell? ⟨b,o,none⟩=some v)→(∃ clk,Fresh G clk)→CallRes P (real f) cargs w (ExtPost G I w v)
def chk (Γ:AProg) (k f:Nat) (p:List AV×AV):Bool:=(idsL p.1).isEmpty && p.2.ids.isEmpty && match z5g Γ k f p.1 [] 0 with
 | some (w,_,_)=>w.beq p.2
 | none=>false
theorem k8o {P:Program} {Γ:AProg} {back:Nat→Option Nat} (hΓ:ProgOk P back Γ) (hB:q2d P back) (hD:x9a P back) (hR:q1n P Γ) {f:Nat} {tab:List (List AV×AV)} (h:∀ p∈tab,∃ k,chk Γ k f p=true):told P f (q0d tab):=by
 intro az v hv G I w cargs hargs himm _
 unfold q0d at hv
 rw[Option.map_eq_some_iff] at hv
 obtain⟨p,hp,rfl⟩:=hv
 have hbeq:=List.find?_some hp
 have haz:p.1=az:=z6t hbeq
 obtain⟨k,hk⟩:=h p (List.mem_of_find?_eq_some hp)
 simp only[chk,Bool.and_eq_true,List.isEmpty_iff] at hk
 obtain⟨⟨h1,h2⟩,h3⟩:=hk
 split at h3
 ·rename_i v' h' clk hc
  have hvv:=beq_sound h3
  subst hvv
  subst haz
  have hargs0:VRL (fun _=>none) I p.1 cargs.toList:=VRL.keep (n:=0) q3q (by rw[h1];simp) hargs
  intro o a next Q hn
  refine (q6s hΓ hB hD hR k f p.1 [] 0 p.2 h' clk hc (fun _=>none) I w cargs hargs0 ⟨himm,fun i o ho=>by simp at ho,fun i j oi oj b hi=>by simp at hi⟩ (fun _ _=>rfl)) o a next Q fun cv w' he=>hn cv w' ?_
  obtain⟨G',I',hv',hran,_⟩:=he
  refine⟨I',hran.ile,VR.keep (n:=0) q3q (by rw[h2];simp) hv',fun b y hy=> ?_,hran.fr.os,hran.fr.tape,hran.fr.output,hran.fr.size,fun b o v hv=> ?_⟩
  ·have hb:b < w.heap.size:=(Array.getElem?_eq_some_iff.1 hy).1
   rw[hran.fr.kept b hb fun i o hi=>by simp at hi]
   exact hy
  ·rcases Nat.lt_or_ge b w.heap.size with hb | hb
   ·exact .inl (hran.ifr b hb (fun i o hi=>by simp at hi) o v hv)
   ·exact .inr ⟨hb,hran.rel.imm b o v hv⟩
 ·cases h3
end Go.Proofs.YtkollgjffkdliaaGreatDoor.Am
namespace Go.Proofs.YtkollgjffkdliaaGreatDoor
open Go Go.RowKit
namespace Am
set_option maxRecDepth 100000 in
set_option maxHeartbeats 1000000 in
theorem x9i (F:Fence) (m:Nat) (hF:F.fn 294) (hro:F.round=none) (hm:1≤m) (l b n c:Nat) (A:Option Addr) (J:Nat→World→Prop) (W:World) (hn:n < 2 ^ 48)
  (hcap:∀ i W,J i W→W.cell? ⟨b,0,none⟩=some (.slice A n c))
  (hround:∀ i W,i < n→J (i + 1) W→∃ bA oA vx,A=some ⟨bA,oA,none⟩∧n≤c∧W.cell? ⟨bA,oA + i,none⟩=some vx∧YieldAt F (m - 1) Tryz.prog l #[.int .i64 i,vx] W fun e W'=>e= .returned (.bool true)∧J i W')
  (h0:J n W):CallsIn F m Tryz.prog 294 #[.func (.yield l) #[] #[], .pointer (some ⟨b,0,none⟩)] W fun e W'=>(∃ v,e= .returned v)∧J 0 W':=by
 have hc:=hcap _ _ h0
 refine callsIn_of_wp Tryz.func294 rfl hF ?_ hro
 simp only[Tryz.ntmps294,List.size_toArray,List.length_cons,List.length_nil,z1,z3,Array.replicate_succ,Array.replicate_zero,List.push_toArray,List.append_toArray,List.nil_append,List.cons_append]
 have hw1:IntKind.i64.wrap ((n:Int) - 1)=(n:Int) - 1:=IntWalk.i64_in _ (by omega)
 gi_wp2
 gi_loopw [3] (fun v wr=>∃ k:Nat,k≤n∧v= .int .i64 ((k:Int) - 1)∧J k wr) (fun v _=>(intOf v + 1).toNat)
 case atStart=>exact⟨n,Nat.le_refl _,rfl,h0⟩
 case round=>
  obtain⟨k,hk,rfl,hJ⟩:=hrel
  cases k with
  | zero=>
    gi_wp2
    go_end0
    exact⟨⟨_,rfl⟩,hJ⟩
  | succ i=>
    have he:(((i + 1:Nat):Int) - 1)=(i:Int):=by omega
    rw[he]
    have hw2:IntKind.i64.wrap ((i:Int) - 1)=(i:Int) - 1:=IntWalk.i64_in _ (by omega)
    obtain⟨bA,oA,vx,rfl,hnc,hcell,fn,tmps,assign,body,hy,hR⟩:=hround i _ (by omega) hJ
    have hc2:=hcap _ _ hJ
    have hlt:(i:Int) < (n:Int):=by omega
    clear he hround
    gi_wp2
    refine hR.mono ?_
    rintro e W3 ⟨rfl,hJ3⟩
    gi_wp2
    go_roundw
    case rel=>exact⟨i,by omega,rfl,hJ3⟩
    case measure=>simp[intOf]
theorem k2c:k1s Tryz.prog 294:=fun q l b n c A J W hn hcap _ hround h0=>
 x9i (q8a none) (q + 1) trivial rfl (Nat.le_add_left 1 q) l b n c A J W hn hcap hround h0
theorem k2d {G:Ghost} {I:Imm} {w:World} {x:AV} {cx:Value} (hr:(z7l x).isSome=true) (hx:VR G I x cx) (himm:∀ b o v,I b o=some v→w.cell? ⟨b,o,none⟩=some v):CallRes Tryz.prog 252 #[cx] w fun cv w'=>∃ I',ILe I I'∧VR G I' (.bwd 294 x) cv∧(∀ (b:Nat) (y:Obj),w.heap[b]? =some y→w'.heap[b]? =some y)∧w'.os=w.os∧w'.tape=w.tape∧w'.output=w.output∧w.heap.size≤w'.heap.size∧
   ∀ b o v,I' b o=some v→I b o=some v∨(w.heap.size≤b∧w'.cell? ⟨b,o,none⟩=some v):=by
 have hlo:∀ b o v,I b o=some v→b < w.heap.size:=fun b o v hv=>by
  have hc:=himm b o v hv
  unfold World.cell? at hc
  simp only at hc
  apply Nat.lt_of_not_le
  intro hle
  rw[Array.getElem?_eq_none hle] at hc
  simp at hc
 obtain⟨A,n,c,rfl⟩:∃ A n c,cx= .slice A n c:=by
  cases x <;> simp[z7l] at hr
  case sl xs t=>
   simp only[VR] at hx
   obtain⟨A,n',c,rfl,_⟩:=hx
   exact⟨A,n',c,rfl⟩
  case ob s g off l=>
   simp only[VR] at hx
   obtain⟨i,A,c,_,_,rfl,_⟩:=hx
   exact⟨A,_,c,rfl⟩
 intro o a next Q hn
 rw[z6h Tryz.func252 rfl (by decide),Oper.upon_enter]
 have hc:Calls Tryz.prog 252 #[.slice A n c] w fun e w'=>e= .returned (.func (.func 294) #[] #[.pointer (some ⟨w.heap.size,0,none⟩)])∧w'=w.alloc (.cells #[.slice A n c] 22):=by
  go_enter Tryz.func252,Tryz.ntmps252
  go_wp2
  go_ret
  exact⟨rfl,rfl⟩
 refine hc.mono ?_
 rintro e w' ⟨rfl,rfl⟩
 refine hn _ _ ⟨fun b o=>if b=w.heap.size∧o=0 then some (.slice A n c) else I b o,fun b o v hv=> ?_, ?_,fun b y hy=> ?_,rfl,rfl,rfl,by simp,fun b o v hv=> ?_⟩
 ·have:=hlo b o v hv
  show (if b=w.heap.size∧o=0 then some (Value.slice A n c) else I b o)=some v
  rw[if_neg (by omega)]
  exact hv
 ·simp only[VR]
  refine⟨w.heap.size, .slice A n c,rfl,by simp,VR.mono (GLe.refl _) (fun b o v hv=> ?_) hx⟩
  have:=hlo b o v hv
  show (if b=w.heap.size∧o=0 then some (Value.slice A n c) else I b o)=some v
  rw[if_neg (by omega)]
  exact hv
 ·rw[RowKit.Below.heap_alloc _ _ _ (Array.getElem?_eq_some_iff.1 hy).1]
  exact hy
 ·replace hv:(if b=w.heap.size∧o=0 then some (Value.slice A n c) else I b o)=some v:=hv
  split at hv
  ·rename_i hbo
   obtain⟨rfl,rfl⟩:=hbo
   simp only[Option.some.injEq] at hv
   subst hv
   refine .inr ⟨Nat.le_refl _, ?_⟩
   unfold World.cell?
   simp only[World.alloc_heap_new]
   rfl
  ·exact .inl hv
end Am
end Go.Proofs.YtkollgjffkdliaaGreatDoor
