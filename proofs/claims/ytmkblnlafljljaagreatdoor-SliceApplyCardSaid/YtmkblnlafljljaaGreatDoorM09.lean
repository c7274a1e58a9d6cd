/- The functions of this program that loops go over: slices Walking code of the abstract machine: what is left to do is data, so that rewriting never looks into it Walking code of the abstract machine: c -/
import Derived.RangeFuncCalls
import Derived.Maps.RangeWalk
import Derived.IntWalk
import Derived.LoopIn
import Derived.Attr
import Derived.Test.YtmkblnlafljljaaGreatDoorProg
import Derived.Test.YtmkblnlafljljaaGreatDoorM08
open Nat renaming reduceBEq → z0,reduceAdd → z1,reduceLeDiff → z2,reduceSub → z3
set_option linter.all false
namespace Go.Proofs.YtmkblnlafljljaaGreatDoor
open Go Go.RowKit
namespace Am
set_option maxRecDepth 100000 in
set_option maxHeartbeats 1000000 in
theorem x4n (F:Fence) (m:Nat) (hF:F.fn 226) (hro:F.round=none) (hm:1≤m) (l b n c:Nat) (A:Option Addr) (J:Nat→World→Prop) (W:World) (hn:n < 2 ^ 48)
  (hcap:∀ i W,J i W→W.cell? ⟨b,0,none⟩=some (.slice A n c))
  (hround:∀ i W,i < n→J (i + 1) W→∃ bA oA vx,A=some ⟨bA,oA,none⟩∧n≤c∧W.cell? ⟨bA,oA + i,none⟩=some vx∧YieldAt F (m - 1) Tryz.prog l #[.int .i64 i,vx] W fun e W'=>e= .returned (.bool true)∧J i W')
  (h0:J n W):CallsIn F m Tryz.prog 226 #[.func (.yield l) #[] #[], .pointer (some ⟨b,0,none⟩)] W fun e W'=>(∃ v,e= .returned v)∧J 0 W':=by
 have hc:=hcap _ _ h0
 refine callsIn_of_wp Tryz.func226 rfl hF ?_ hro
 simp only[Tryz.ntmps226,List.size_toArray,List.length_cons,List.length_nil,z1,z3,Array.replicate_succ,Array.replicate_zero,List.push_toArray,List.append_toArray,List.nil_append,List.cons_append]
 have hw1:IntKind.i64.wrap ((n:Int) - 1)=(n:Int) - 1:=IntWalk.i64_in _ (by omega)
 gi_wp2
 gi_loopw [3] (fun v wr=>∃ k:Nat,k≤n∧v= .int .i64 ((k:Int) - 1)∧J k wr) (fun v _=>(intOf v + 1).toNat)
 case atStart=>exact⟨n,Nat.le_refl _,rfl,h0⟩
 case round=>
  obtain⟨k,hk,rfl,hJ⟩:=hrel
  cases k with
  | zero=>
    gi_wp2
    go_end0
    exact⟨⟨_,rfl⟩,hJ⟩
  | succ i=>
    have he:(((i + 1:Nat):Int) - 1)=(i:Int):=by omega
    rw[he]
    have hw2:IntKind.i64.wrap ((i:Int) - 1)=(i:Int) - 1:=IntWalk.i64_in _ (by omega)
    obtain⟨bA,oA,vx,rfl,hnc,hcell,fn,tmps,assign,body,hy,hR⟩:=hround i _ (by omega) hJ
    have hc2:=hcap _ _ hJ
    have hlt:(i:Int) < (n:Int):=by omega
    clear he hround
    gi_wp2
    refine hR.mono ?_
    rintro e W3 ⟨rfl,hJ3⟩
    gi_wp2
    go_roundw
    case rel=>exact⟨i,by omega,rfl,hJ3⟩
    case measure=>simp[intOf]
theorem j4k:j4a Tryz.prog 226:=fun q l b n c A J W hn hcap _ hround h0=>
 x4n (q5m none) (q + 1) trivial rfl (Nat.le_add_left 1 q) l b n c A J W hn hcap hround h0
theorem j4l {G:Ghost} {I:Imm} {w:World} {x:AV} {cx:Value} (hr:(z6k x).isSome=true) (hx:VR G I x cx) (himm:∀ b o v,I b o=some v→w.cell? ⟨b,o,none⟩=some v):CallRes Tryz.prog 217 #[cx] w fun cv w'=>∃ I',ILe I I'∧VR G I' (.bwd 226 x) cv∧(∀ (b:Nat) (y:Obj),w.heap[b]? =some y→w'.heap[b]? =some y)∧w'.os=w.os∧w'.tape=w.tape∧w'.output=w.output∧w.heap.size≤w'.heap.size∧
   ∀ b o v,I' b o=some v→I b o=some v∨(w.heap.size≤b∧w'.cell? ⟨b,o,none⟩=some v):=by
 have hlo:∀ b o v,I b o=some v→b < w.heap.size:=fun b o v hv=>by
  have hc:=himm b o v hv
  unfold World.cell? at hc
  simp only at hc
  apply Nat.lt_of_not_le
  intro hle
  rw[Array.getElem?_eq_none hle] at hc
  simp at hc
 obtain⟨A,n,c,rfl⟩:∃ A n c,cx= .slice A n c:=by
  cases x <;> simp[z6k] at hr
  case sl xs t=>
   simp only[VR] at hx
   obtain⟨A,n',c,rfl,_⟩:=hx
   exact⟨A,n',c,rfl⟩
  case ob s g off l=>
   simp only[VR] at hx
   obtain⟨i,A,c,_,_,rfl,_⟩:=hx
   exact⟨A,_,c,rfl⟩
 intro o a next Q hn
 rw[z5m Tryz.func217 rfl (by decide),Oper.upon_enter]
 have hc:Calls Tryz.prog 217 #[.slice A n c] w fun e w'=>e= .returned (.func (.func 226) #[] #[.pointer (some ⟨w.heap.size,0,none⟩)])∧w'=w.alloc (.cells #[.slice A n c] 22):=by
  go_enter Tryz.func217,Tryz.ntmps217
  go_wp2
  go_ret
  exact⟨rfl,rfl⟩
 refine hc.mono ?_
 rintro e w' ⟨rfl,rfl⟩
 refine hn _ _ ⟨fun b o=>if b=w.heap.size∧o=0 then some (.slice A n c) else I b o,fun b o v hv=> ?_, ?_,fun b y hy=> ?_,rfl,rfl,rfl,by simp,fun b o v hv=> ?_⟩
 ·have:=hlo b o v hv
  show (if b=w.heap.size∧o=0 then some (Value.slice A n c) else I b o)=some v
  rw[if_neg (by omega)]
  exact hv
 ·simp only[VR]
  refine⟨w.heap.size, .slice A n c,rfl,by simp,VR.mono (GLe.refl _) (fun b o v hv=> ?_) hx⟩
  have:=hlo b o v hv
  show (if b=w.heap.size∧o=0 then some (Value.slice A n c) else I b o)=some v
  rw[if_neg (by omega)]
  exact hv
 ·rw[RowKit.Below.heap_alloc _ _ _ (Array.getElem?_eq_some_iff.1 hy).1]
  exact hy
 ·replace hv:(if b=w.heap.size∧o=0 then some (Value.slice A n c) else I b o)=some v:=hv
  split at hv
  ·rename_i hbo
   obtain⟨rfl,rfl⟩:=hbo
   simp only[Option.some.injEq] at hv
   subst hv
   refine .inr ⟨Nat.le_refl _, ?_⟩
   unfold World.cell?
   simp only[World.alloc_heap_new]
   rfl
  ·exact .inl hv
end Am
end Go.Proofs.YtmkblnlafljljaaGreatDoor
namespace Go.Proofs.YtmkblnlafljljaaGreatDoor.Am
open Go
set_option maxRecDepth 100000
section
abbrev Run:=Nat→ACode→St→Option (AEx×St)
def k7s (R R':Run):Prop:=∀ b c s r,R b c s=some r→R' b c s=some r
def x0r (C C':Caller):Prop:=∀ f asx h c r,C f asx h c=some r→C' f asx h c=some r
theorem q0g {R R':Run} (hR:k7s R R') {Γ:AProg}:x0r (z0i R Γ) (z0i R' Γ):=by
 intro f args h clk x hc
 unfold z0i at hc⊢
 split at hc
 ·exact hc
 ·split at hc
  ·cases hc
  ·rename_i af haf
   split at hc
   ·cases hc
   ·rename_i asx has
    dsimp only at hc⊢
    generalize hE:R h.length af.body ⟨z9h asx,maskFrom (reach h (h.length + 1) [] (idsL asx)) 0 (freezeAll h (z0n af.byref 0 args))++List.replicate af.nslots .dead,clk⟩=E at hc
    cases E with
    | none=>cases hc
    | some r=>
      rw[hR _ _ _ _ hE]
      exact hc
theorem x0s {C C':Caller} (hC:x0r C C') {base g:Nat} {o:AOper} {s r:St} (h:stepA C base g o s=some r):stepA C' base g o s=some r:=by
 obtain⟨dst,op,guard⟩:=o
 unfold stepA at h⊢
 split at h
 ·rename_i hw
  simp only at h
  cases op
  case call f args=>
   simp only at h⊢
   split at h
   ·rename_i v h' c hc
    rw[hC _ _ _ _ _ hc]
    exact h
   ·cases h
  case callv x args=>
   simp only at h⊢
   split at h
   ·split at h
    ·rename_i v h' c hc
     rw[hC _ _ _ _ _ hc]
     exact h
    ·cases h
   ·cases h
  all_goals exact h
 ·rename_i hw
  exact h
 ·cases h
theorem q7r {C C':Caller} (hC:x0r C C') {base:Nat}:∀ {os:List AOper} {g:Nat} {s r:St},z7r C base g os s=some r→z7r C' base g os s=some r
 | [],_,_,_,h=>h
 | o::os,g,s,r,h=>by
   simp only[z7r] at h⊢
   split at h
   ·rename_i s1 h1
    rw[x0s hC h1]
    exact q7r hC h
   ·cases h
theorem q0y {C C':Caller} (hC:x0r C C') {Γ:AProg} {base:Nat}:∀ {os:List AOper} {g:Nat} {s:St} {r},z2w C Γ base g os s=some r→z2w C' Γ base g os s=some r
 | [],_,_,_,h=>h
 | o::os,g,s,r,h=>by
   simp only[z2w] at h⊢
   split at h
   ·rename_i s1 h1
    rw[x0s hC h1]
    simp only[Option.map_eq_some_iff] at h⊢
    obtain⟨a,h2,h3⟩:=h
    exact⟨a,q0y hC h2,h3⟩
   ·cases h
theorem x7d {C C':Caller} (hC:x0r C C') {Γ:AProg} {base n:Nat} {ops:List AOper} {ps:List (Nat×Nat)} {s r:St} (h:region C Γ base n ops ps s=some r):region C' Γ base n ops ps s=some r:=by
 unfold region at h⊢
 cases ps with
 | nil=>exact q7r hC h
 | cons p ps=>
   simp only at h⊢
   split at h
   ·rename_i s1 fs h1
    rw[q0y hC h1]
    exact h
   ·cases h
theorem q2p {R R':St→Option (AEx×St)} (hR:∀ s r,R s=some r→R' s=some r) {v:AV} {ts:Tmps} {p q:Nat}:∀ {n:Nat} {m r},q0s R v ts p q n m=some r→q0s R' v ts p q n m=some r
 | 0,_,_,h=>h
 | n + 1,m,r,h=>by
   simp only[q0s] at h⊢
   split at h
   ·rename_i x hx
    split at h
    ·rename_i s hs
     rw[hR _ _ hs]
     exact q2p hR h
    ·cases h
   ·cases h
theorem j4m {Γ:AProg}:∀ k,k7s (z3p Γ k) (z3p Γ (k + 1)):=by
 intro k
 induction k with
 | zero=>intro b c s r h;cases h
 | succ k ih=>
   intro b c s r h
   cases c with
   | skip=>exact h
   | exit i=>exact h
   | ret=>exact h
   | bad=>exact h
   | region n ops ps=>
     rw[z3p] at h⊢
     simp only[Option.map_eq_some_iff] at h⊢
     obtain⟨a,h1,h2⟩:=h
     exact⟨a,x7d (q0g ih) h1,h2⟩
   | seq x y=>
     rw[z3p] at h⊢
     split at h
     ·rename_i s1 h1
      rw[ih _ _ _ _ h1]
      exact ih _ _ _ _ h
     ·rename_i hn
      cases hx:z3p Γ k b x s with
      | none=>rw[hx] at h;cases h
      | some q=>
        rw[ih _ _ _ _ hx]
        rw[hx] at h
        split
        ·rename_i s1 e1
         injection e1 with e1
         exact absurd (e1 ▸ hx) (hn s1)
        ·exact h
   | cond x y z=>
     rw[z3p] at h⊢
     split at h
     ·exact ih _ _ _ _ h
     ·cases h
   | block i x=>
     rw[z3p] at h⊢
     cases hx:z3p Γ k b x s with
     | none=>rw[hx] at h;cases h
     | some q=>
       rw[ih _ _ _ _ hx]
       rw[hx] at h
       exact h
   | loop x=>
     rw[z3p] at h⊢
     split at h
     ·rename_i s1 h1
      rw[ih _ _ _ _ h1]
      exact ih _ _ _ _ h
     ·rename_i hn
      cases hx:z3p Γ k b x s with
      | none=>rw[hx] at h;cases h
      | some q=>
        rw[ih _ _ _ _ hx]
        rw[hx] at h
        split
        ·rename_i s1 e1
         injection e1 with e1
         exact absurd (e1 ▸ hx) (hn s1)
        ·exact h
   | rangeB x p q a y=>
     rw[z3p] at h⊢
     split at h
     ·split at h
      ·split at h
       ·rename_i f v _ n hn hi
        simp only[hi,if_true]
        simp only[Option.map_eq_some_iff] at h⊢
        obtain⟨m,h1,h2⟩:=h
        refine⟨m,q2p ?_ h1,h2⟩
        intro s r hr
        split at hr
        ·rename_i s1 hs
         rw[ih _ _ _ _ hs]
         exact ih _ _ _ _ hr
        ·rename_i hn2
         cases hx:z3p Γ k b a s with
         | none=>rw[hx] at hr;cases hr
         | some q=>
           rw[ih _ _ _ _ hx]
           rw[hx] at hr
           split
           ·rename_i s1 e1
            injection e1 with e1
            exact absurd (e1 ▸ hx) (hn2 s1)
           ·exact hr
       ·cases h
      ·cases h
     ·cases h
theorem z9d {Γ:AProg} {k k':Nat} (h:k≤k'):k7s (z3p Γ k) (z3p Γ k'):=by
 induction h with
 | refl=>exact fun _ _ _ _ h=>h
 | step _ ih=>exact fun _ _ _ _ h=>j4m _ _ _ _ _ (ih _ _ _ _ h)
theorem x1z {Γ:AProg} {k k':Nat} (h:k≤k'):x0r (z5i Γ k) (z5i Γ k'):=q0g (z9d h)
theorem z7i {Γ:AProg} {k k' b:Nat} {c:ACode} {s:St} {r r'} (h:z3p Γ k b c s=some r) (h':z3p Γ k' b c s=some r'):r=r':=by
 have h1:=z9d (Nat.le_max_left k k') _ _ _ _ h
 have h2:=z9d (Nat.le_max_right k k') _ _ _ _ h'
 rw[h1] at h2
 injection h2
theorem q7s {Γ:AProg} {k k' f:Nat} {asx:List AV} {h:List AObj} {c:Nat} {r r'} (h1:z5i Γ k f asx h c=some r) (h2:z5i Γ k' f asx h c=some r'):r=r':=by
 have h1:=x1z (Nat.le_max_left k k') _ _ _ _ _ h1
 have h2:=x1z (Nat.le_max_right k k') _ _ _ _ _ h2
 rw[h1] at h2
 injection h2
abbrev Post:=AEx→St→Prop
inductive Kf where
 | seq (b:ACode)
 | block (id:Nat)
def Kf.next:Kf→AEx→ACode
 | .seq b, .norm=>b
 | .seq _, .exit i=> .exit i
 | .seq _, .ret=> .ret
 | .block _, .norm=> .skip
 | .block i, .exit j=>if j=i then .skip else .exit j
 | .block _, .ret=> .ret
def Kf.on:Kf→ACode→ACode
 | .seq b,a=> .seq a b
 | .block i,a=> .block i a
section
variable (Γ:AProg)
def W (base:Nat) (c:ACode) (s:St) (Q:Post):Prop:=∃ k e s',z3p Γ k base c s=some (e,s')∧Q e s'
def WC (f:Nat) (args:List AV) (h:List AObj) (clk:Nat) (Q:AV→List AObj→Nat→Prop):Prop:=∃ k v h' c,z5i Γ k f args h clk=some (v,h',c)∧Q v h' c
def K (base:Nat) (c:ACode):List Kf→St→Post→Prop
 | [],s,Q=>W Γ base c s Q
 | f::ks,s,Q=>W Γ base c s fun e s'=>K base (f.next e) ks s' Q
end
section
variable {Γ:AProg} {base:Nat}
theorem q5r {s:St} {Q:Post}:W Γ base .skip s Q=Q .norm s:=by
 refine propext ⟨?_,fun h=>⟨1,_,_,rfl,h⟩⟩
 rintro ⟨k,e,s',h,hq⟩
 obtain⟨rfl⟩:=z7i (k':=1) h rfl
 exact hq
theorem x9i {i:Nat} {s:St} {Q:Post}:W Γ base (.exit i) s Q=Q (.exit i) s:=by
 refine propext ⟨?_,fun h=>⟨1,_,_,rfl,h⟩⟩
 rintro ⟨k,e,s',h,hq⟩
 obtain⟨rfl⟩:=z7i (k':=1) h rfl
 exact hq
theorem k0o {s:St} {Q:Post}:W Γ base .ret s Q=Q .ret s:=by
 refine propext ⟨?_,fun h=>⟨1,_,_,rfl,h⟩⟩
 rintro ⟨k,e,s',h,hq⟩
 obtain⟨rfl⟩:=z7i (k':=1) h rfl
 exact hq
theorem y5q {f:Kf} {c:ACode} {s:St} {Q:Post}:W Γ base (f.on c) s Q=W Γ base c s fun e s'=>W Γ base (f.next e) s' Q:=by
 apply propext
 constructor
 ·rintro ⟨k,e,s',h,hq⟩
  cases k with
  | zero=>cases h
  | succ k=>
    cases f with
    | seq b=>
      rw[Kf.on,z3p] at h
      split at h
      ·rename_i s1 h1
       exact⟨k, .norm,s1,h1,k,e,s',h,hq⟩
      ·rename_i hn
       cases e with
       | norm=>exact absurd h (hn s')
       | exit i=>exact⟨k,_,_,h,1,_,_,rfl,hq⟩
       | ret=>exact⟨k,_,_,h,1,_,_,rfl,hq⟩
    | block i=>
      rw[Kf.on,z3p] at h
      split at h
      ·rename_i j s1 h1
       split at h
       ·rename_i hj
        injection h with h
        injection h with e1 e2
        subst e1;subst e2
        exact⟨k,_,_,h1,by simp only[Kf.next,if_pos hj];exact⟨1,_,_,rfl,hq⟩⟩
       ·rename_i hj
        injection h with h
        injection h with e1 e2
        subst e1;subst e2
        exact⟨k,_,_,h1,by simp only[Kf.next,if_neg hj];exact⟨1,_,_,rfl,hq⟩⟩
      ·rename_i hn
       cases e with
       | norm=>exact⟨k,_,_,h,1,_,_,rfl,hq⟩
       | exit j=>exact absurd h (hn j s')
       | ret=>exact⟨k,_,_,h,1,_,_,rfl,hq⟩
 ·rintro ⟨k,e,s1,h1,k',e',s',h2,hq⟩
  have h1':=z9d (Nat.le_max_left k k') _ _ _ _ h1
  have h2':=z9d (Nat.le_max_right k k') _ _ _ _ h2
  refine⟨max k k' + 1,e',s', ?_,hq⟩
  cases f with
  | seq b=>
    rw[Kf.on,z3p]
    simp only[h1']
    cases e with
    | norm=>exact h2'
    | exit i=>exact (congrArg some (z7i (k':=1) h2 rfl)).symm
    | ret=>exact (congrArg some (z7i (k':=1) h2 rfl)).symm
  | block i=>
    rw[Kf.on,z3p]
    simp only[h1']
    cases e with
    | norm=>exact (congrArg some (z7i (k':=1) h2 rfl)).symm
    | exit j=>
      simp only[Kf.next] at h2
      by_cases hj:j=i
      ·simp only[if_pos hj] at h2⊢
       exact (congrArg some (z7i (k':=1) h2 rfl)).symm
      ·simp only[if_neg hj] at h2⊢
       exact (congrArg some (z7i (k':=1) h2 rfl)).symm
    | ret=>exact (congrArg some (z7i (k':=1) h2 rfl)).symm
variable {ks:List Kf} {s s':St} {Q:Post} {c c':ACode}
theorem v5k (h:∀ Q,W Γ base c s Q=W Γ base c' s' Q):K Γ base c ks s Q=K Γ base c' ks s' Q:=by
 cases ks <;> exact h _
theorem y3e {f:Kf}:K Γ base (f.on c) ks s Q=K Γ base c (f::ks) s Q:=by
 cases ks <;> exact y5q
theorem k7t {a b:ACode}:K Γ base (.seq a b) ks s Q=K Γ base a (.seq b::ks) s Q:=y3e (f:= .seq b)
theorem k7u {i:Nat} {a:ACode}:K Γ base (.block i a) ks s Q=K Γ base a (.block i::ks) s Q:=y3e (f:= .block i)
theorem q4r {b:ACode}:K Γ base .skip (.seq b::ks) s Q=K Γ base b ks s Q:=q5r
theorem x4o {i:Nat}:K Γ base .skip (.block i::ks) s Q=K Γ base .skip ks s Q:=q5r
theorem j1o {b:ACode} {i:Nat}:K Γ base (.exit i) (.seq b::ks) s Q=K Γ base (.exit i) ks s Q:=x9i
theorem x4p {i j:Nat}:K Γ base (.exit j) (.block i::ks) s Q=K Γ base (if j=i then .skip else .exit j) ks s Q:=x9i
theorem j4n {b:ACode}:K Γ base .ret (.seq b::ks) s Q=K Γ base .ret ks s Q:=k0o
theorem x7e {i:Nat}:K Γ base .ret (.block i::ks) s Q=K Γ base .ret ks s Q:=k0o
theorem x0t:K Γ base .skip [] s Q=Q .norm s:=q5r
theorem x0u {i:Nat}:K Γ base (.exit i) [] s Q=Q (.exit i) s:=x9i
theorem x4q:K Γ base .ret [] s Q=Q .ret s:=k0o
def BK (Γ:AProg) (base:Nat) (x:AV) (a b:ACode) (ks:List Kf) (s:St) (Q:Post):Prop:=
 match x with
 | .bool true=>K Γ base a ks s Q
 | .bool false=>K Γ base b ks s Q
 | _=>False
theorem k7v {a b:ACode}:BK Γ base (.bool true) a b ks s Q=K Γ base a ks s Q:=(rfl)
theorem k0p {a b:ACode}:BK Γ base (.bool false) a b ks s Q=K Γ base b ks s Q:=(rfl)
theorem z7w {x:Bool} {a b:ACode} (ha:x=true→K Γ base a ks s Q) (hb:x=false→K Γ base b ks s Q):BK Γ base (.bool x) a b ks s Q:=by
 cases x
 ·exact hb rfl
 ·exact ha rfl
theorem v5l {x:AOpd} {a b:ACode}:W Γ base (.cond x a b) s Q=match x.ev s.ts with
  | .bool true=>W Γ base a s Q
  | .bool false=>W Γ base b s Q
  | _=>False:=by
 apply propext
 have key:∀ t,x.ev s.ts= .bool t→(W Γ base (.cond x a b) s Q↔W Γ base (if t then a else b) s Q):=by
  intro t ht
  constructor
  ·rintro ⟨k,e,s',h,hq⟩
   cases k with
   | zero=>cases h
   | succ k=>
     rw[z3p] at h
     simp only[ht] at h
     exact⟨k,e,s',h,hq⟩
  ·rintro ⟨k,e,s',h,hq⟩
   exact⟨k + 1,e,s',by rw[z3p];simp only[ht];exact h,hq⟩
 split
 ·rename_i h;exact key true h
 ·rename_i h;exact key false h
 ·rename_i h1 h2
  refine⟨?_,False.elim⟩
  rintro ⟨k,e,s',h,hq⟩
  cases k with
  | zero=>cases h
  | succ k=>
    rw[z3p] at h
    split at h
    ·rename_i t ht
     cases t
     ·exact h2 ht
     ·exact h1 ht
    ·cases h
theorem v5m {x:AOpd} {a b:ACode}:K Γ base (.cond x a b) ks s Q=BK Γ base (x.ev s.ts) a b ks s Q:=by
 unfold BK
 cases ks <;> · unfold K;rw[v5l]
def q7t (Γ:AProg) (base:Nat) (s:St) (o:AOper) (h':List AObj):List Nat×List Nat:=
 if z5h s.ts o.guard=some true then foot Γ s.h h' base s.ts o.op else ([],[])
def z1r (N:Nat) (ops:List AOper) (fs:List (List Nat×List Nat)) (ps:List (Nat×Nat)):Bool:=
 ps.all fun p=>apart (fs.getD p.1 ([],[])) (fs.getD p.2 ([],[])) && (!(z1l ops p.1 || z1l ops p.2) || ((z1v fs p.1++z1v fs p.2).all (· < N)))
inductive Md where
 | plain
 | draw (N:Nat) (ops:List AOper) (ps:List (Nat×Nat)) (fs:List (List Nat×List Nat))
def Md.add (f:List Nat×List Nat):Md→Md
 | .plain=> .plain
 | .draw N ops ps fs=> .draw N ops ps (fs++[f])
def Md.adds:Md→List (List Nat×List Nat)→Md
 | m,[]=>m
 | m,f::fs=>(m.add f).adds fs
def Md.ok:Md→Bool
 | .plain=>true
 | .draw N ops ps fs=>z1r N ops fs ps
def O (Γ:AProg) (base:Nat) (m:Md) (g:Nat) (os:List AOper) (s:St) (ks:List Kf) (Q:Post):Prop:=
 ∃ k s' fs,z2w (z0i (z3p Γ k) Γ) Γ base g os s=some (s',fs)∧(m.adds fs).ok=true∧K Γ base .skip ks s' Q
variable {m:Md} {g:Nat} {os:List AOper}
theorem q7u:O Γ base .plain g [] s ks Q=K Γ base .skip ks s Q:=by
 refine propext ⟨?_,fun h=>⟨0,s,[],rfl,rfl,h⟩⟩
 rintro ⟨k,s',fs,h,_,hq⟩
 simp only[z2w,Option.some.injEq,Prod.mk.injEq] at h
 obtain⟨rfl,rfl⟩:=h
 exact hq
theorem j1p {N:Nat} {ops:List AOper} {ps:List (Nat×Nat)} {fs:List (List Nat×List Nat)}:O Γ base (.draw N ops ps fs) g [] s ks Q=(z1r N ops fs ps=true∧K Γ base .skip ks s Q):=by
 refine propext ⟨?_,fun h=>⟨0,s,[],rfl,h.1,h.2⟩⟩
 rintro ⟨k,s',fs',h,h2,hq⟩
 simp only[z2w,Option.some.injEq,Prod.mk.injEq] at h
 obtain⟨rfl,rfl⟩:=h
 exact⟨h2,hq⟩
theorem q2q {C:Caller}:∀ {os:List AOper} {g:Nat} {s:St},(z2w C Γ base g os s).map (·.1)=z7r C base g os s
 | [],_,_=>rfl
 | o::os,g,s=>by
   simp only[z2w,z7r]
   split
   ·rw[←q2q]
    simp only[Option.map_map]
    rfl
   ·rfl
theorem x0v:∀ {fs:List (List Nat×List Nat)},(Md.plain.adds fs)= .plain
 | []=>rfl
 | _::fs=>x0v (fs:=fs)
theorem q3q {N:Nat} {ops:List AOper} {ps:List (Nat×Nat)}:∀ {fs gs:List (List Nat×List Nat)},(Md.draw N ops ps gs).adds fs= .draw N ops ps (gs++fs)
 | [],gs=>by rw[List.append_nil];rfl
 | f::fs,gs=>by
   simp only[Md.adds,Md.add]
   rw[q3q,List.append_assoc]
   rfl
theorem q2e {n:Nat}:W Γ base (.region n os []) s Q=∃ k s',z7r (z0i (z3p Γ k) Γ) base s.clk os ⟨s.ts,s.h,s.clk + n⟩=some s'∧Q .norm s':=by
 apply propext
 constructor
 ·rintro ⟨k,e,s',h,hq⟩
  cases k with
  | zero=>cases h
  | succ k=>
    rw[z3p] at h
    simp only[region,Option.map_eq_some_iff] at h
    obtain⟨a,h1,h2⟩:=h
    simp only[Prod.mk.injEq] at h2
    obtain⟨rfl,rfl⟩:=h2
    exact⟨k,a,h1,hq⟩
 ·rintro ⟨k,s',h,hq⟩
  exact⟨k + 1, .norm,s',by rw[z3p];simp only[region,h,Option.map_some],hq⟩
theorem q3r {n:Nat} {p:Nat×Nat} {ps:List (Nat×Nat)}:W Γ base (.region n os (p::ps)) s Q=∃ k s' fs,z2w (z0i (z3p Γ k) Γ) Γ base s.clk os ⟨s.ts,s.h,s.clk + n⟩=some (s',fs)∧z1r s.h.length os fs (p::ps)=true∧Q .norm s':=by
 apply propext
 constructor
 ·rintro ⟨k,e,s',h,hq⟩
  cases k with
  | zero=>cases h
  | succ k=>
    rw[z3p] at h
    simp only[region,Option.map_eq_some_iff] at h
    obtain⟨a,h1,h2⟩:=h
    simp only[Prod.mk.injEq] at h2
    obtain⟨rfl,rfl⟩:=h2
    split at h1
    ·rename_i s1 fs h3
     split at h1
     ·rename_i h4
      injection h1 with h1
      subst h1
      exact⟨k,s1,fs,h3,h4,hq⟩
     ·cases h1
    ·cases h1
 ·rintro ⟨k,s',fs,h,h2,hq⟩
  refine⟨k + 1, .norm,s', ?_,hq⟩
  unfold z1r at h2
  rw[z3p]
  simp only[region,h]
  rw[if_pos h2]
  rfl
theorem k0q {n:Nat}:K Γ base (.region n os []) ks s Q=O Γ base .plain s.clk os ⟨s.ts,s.h,s.clk + n⟩ ks Q:=by
 have key:∀ R:St→Prop,(∃ k s',z7r (z0i (z3p Γ k) Γ) base s.clk os ⟨s.ts,s.h,s.clk + n⟩=some s'∧R s')=∃ k s' fs,z2w (z0i (z3p Γ k) Γ) Γ base s.clk os ⟨s.ts,s.h,s.clk + n⟩=some (s',fs)∧(Md.plain.adds fs).ok=true∧R s':=by
  intro R
  apply propext
  constructor
  ·rintro ⟨k,s',h,hr⟩
   rw[←q2q (Γ:=Γ),Option.map_eq_some_iff] at h
   obtain⟨⟨s1,fs⟩,h1,rfl⟩:=h
   exact⟨k,s1,fs,h1,by rw[x0v];rfl,hr⟩
  ·rintro ⟨k,s',fs,h,_,hr⟩
   exact⟨k,s',by rw[←q2q (Γ:=Γ),h];rfl,hr⟩
 unfold O
 cases ks with
 | nil=>
   unfold K
   rw[q2e,key]
   simp only[q5r]
 | cons f ks=>
   unfold K
   rw[q2e,key]
   simp only[q5r]
theorem z1y {n:Nat} {p:Nat×Nat} {ps:List (Nat×Nat)}:K Γ base (.region n os (p::ps)) ks s Q=O Γ base (.draw s.h.length os (p::ps) []) s.clk os ⟨s.ts,s.h,s.clk + n⟩ ks Q:=by
 unfold O
 cases ks with
 | nil=>
   unfold K
   rw[q3r]
   simp only[q5r,q3q,List.nil_append,Md.ok]
 | cons f ks=>
   unfold K
   rw[q3r]
   simp only[q5r,q3q,List.nil_append,Md.ok]
theorem k4m {o:AOper} {s1:St} (h:∀ k,stepA (z0i (z3p Γ k) Γ) base g o s=some s1):O Γ base m g (o::os) s ks Q=O Γ base (m.add (q7t Γ base s o s1.h)) (g + 1) os s1 ks Q:=by
 unfold O
 apply propext
 constructor
 ·rintro ⟨k,s',fs,h1,h2,h3⟩
  simp only[z2w,h k,Option.map_eq_some_iff] at h1
  obtain⟨⟨s2,fs2⟩,h4,h5⟩:=h1
  simp only[Prod.mk.injEq] at h5
  obtain⟨rfl,rfl⟩:=h5
  exact⟨k,s2,fs2,h4,h2,h3⟩
 ·rintro ⟨k,s',fs,h1,h2,h3⟩
  exact⟨k,s',q7t Γ base s o s1.h::fs,by simp only[z2w,h k,h1,Option.map_some];rfl,h2,h3⟩
theorem x7f {o:AOper} (h:∀ k,stepA (z0i (z3p Γ k) Γ) base g o s=none):O Γ base m g (o::os) s ks Q=False:=by
 unfold O
 refine propext ⟨?_,False.elim⟩
 rintro ⟨k,s',fs,h1,_⟩
 simp only[z2w,h k] at h1
 cases h1
variable {ts:Tmps} {h:List AObj} {clk:Nat} {dst:Option Nat}
def PO (Γ:AProg) (base:Nat) (x:Option (AV×List AObj)) (f:List Nat×List Nat) (m:Md) (dst:Option Nat) (g:Nat) (os:List AOper) (ts:Tmps) (clk:Nat) (ks:List Kf) (Q:Post):Prop:=
 match x with
 | some (v,h')=>O Γ base (m.add f) (g + 1) os ⟨z8n ts dst v,h',clk⟩ ks Q
 | none=>False
theorem z6f {op:AOp} (hop:op.isCall=false):O Γ base m g (⟨dst,op,none⟩::os) ⟨ts,h,clk⟩ ks Q=PO Γ base (prim h base g ts op) (foot Γ [] [] base ts op) m dst g os ts clk ks Q:=by
 have hf:∀ h',q7t Γ base ⟨ts,h,clk⟩ ⟨dst,op,none⟩ h'=foot Γ [] [] base ts op:=by
  intro h'
  cases op <;> first | rfl | cases hop
 have hs:∀ k,stepA (z0i (z3p Γ k) Γ) base g ⟨dst,op,none⟩ ⟨ts,h,clk⟩=match prim h base g ts op with
   | some (v,h')=>some ⟨z8n ts dst v,h',clk⟩
   | none=>none:=by
  intro k
  cases op <;> first | rfl | cases hop
 unfold PO
 split
 ·rename_i v h' hp
  rw[k4m (s1:=⟨z8n ts dst v,h',clk⟩) (fun k=>by rw[hs k,hp]),hf]
 ·rename_i hp
  exact x7f (fun k=>by rw[hs k,hp])
def gW (x:AV) (b:Bool):Option Bool:=
 match x with
 | .bool y=>some (y==b)
 | .tup []=>some false
 | _=>none
theorem k7w {y b:Bool}:gW (.bool y) b=some (y==b):=(rfl)
theorem v5n {b:Bool}:gW (.tup []) b=some false:=(rfl)
def GO (Γ:AProg) (base:Nat) (w:Option Bool) (op:AOp) (m:Md) (dst:Option Nat) (g:Nat) (os:List AOper) (s:St) (ks:List Kf) (Q:Post):Prop:=
 match w with
 | some true=>O Γ base m g (⟨dst,op,none⟩::os) s ks Q
 | some false=>O Γ base (m.add ([],[])) (g + 1) os ⟨z8n s.ts dst (.tup []),s.h,s.clk⟩ ks Q
 | none=>False
theorem k7x {op:AOp}:GO Γ base (some true) op m dst g os s ks Q=O Γ base m g (⟨dst,op,none⟩::os) s ks Q:=(rfl)
theorem k0r {op:AOp}:GO Γ base (some false) op m dst g os ⟨ts,h,clk⟩ ks Q=O Γ base (m.add ([],[])) (g + 1) os ⟨z8n ts dst (.tup []),h,clk⟩ ks Q:=(rfl)
theorem k7y {op:AOp} {t:Nat} {b:Bool}:O Γ base m g (⟨dst,op,some (t,b)⟩::os) ⟨ts,h,clk⟩ ks Q=GO Γ base (gW (ts t) b) op m dst g os ⟨ts,h,clk⟩ ks Q:=by
 have hw:z5h ts (some (t,b))=gW (ts t) b:=rfl
 unfold GO
 split
 ·rename_i h1
  rw[h1] at hw
  unfold O
  have:∀ k,z2w (z0i (z3p Γ k) Γ) Γ base g (⟨dst,op,some (t,b)⟩::os) ⟨ts,h,clk⟩=z2w (z0i (z3p Γ k) Γ) Γ base g (⟨dst,op,none⟩::os) ⟨ts,h,clk⟩:=by
   intro k
   have h2:z5h ts none=some true:=rfl
   simp only[z2w,stepA,hw,h2]
  simp only[this]
 ·rename_i h1
  rw[h1] at hw
  rw[k4m (s1:=⟨z8n ts dst (.tup []),h,clk⟩) (fun k=>by simp only[stepA,hw])]
  simp only[q7t,hw,Option.some.injEq,Bool.false_eq_true,if_false]
 ·rename_i h1
  rw[h1] at hw
  exact x7f (fun k=>by simp only[stepA,hw])
def CK (Γ:AProg) (base f:Nat) (asx:List AV) (h:List AObj) (clk:Nat) (m:Md) (dst:Option Nat) (g:Nat) (os:List AOper) (ts:Tmps) (ks:List Kf) (Q:Post):Prop:=
 WC Γ f asx h clk fun v h' c=>O Γ base (m.add (z3e (z0v Γ f asx h) h h')) (g + 1) os ⟨z8n ts dst v,h',c⟩ ks Q
theorem j4o {o:AOper} {f:Nat} {asx:List AV} (hs:∀ k,stepA (z0i (z3p Γ k) Γ) base g o ⟨ts,h,clk⟩=match z5i Γ k f asx h clk with
   | some (v,h',c)=>some ⟨z8n ts o.dst v,h',c⟩
   | none=>none) (hf:∀ h',q7t Γ base ⟨ts,h,clk⟩ o h'=z3e (z0v Γ f asx h) h h'):O Γ base m g (o::os) ⟨ts,h,clk⟩ ks Q=CK Γ base f asx h clk m o.dst g os ts ks Q:=by
 unfold CK
 apply propext
 constructor
 ·rintro ⟨k,s',fs,h1,h2,h3⟩
  simp only[z2w,hs k] at h1
  cases hc:z5i Γ k f asx h clk with
  | none=>rw[hc] at h1;cases h1
  | some r=>
    obtain⟨v,h',c⟩:=r
    rw[hc] at h1
    simp only[Option.map_eq_some_iff] at h1
    obtain⟨⟨s2,fs2⟩,h4,h5⟩:=h1
    simp only[Prod.mk.injEq] at h5
    obtain⟨rfl,rfl⟩:=h5
    refine⟨k,v,h',c,hc,k,s2,fs2,h4, ?_,h3⟩
    rw[←hf]
    exact h2
 ·rintro ⟨k,v,h',c,hc,k',s2,fs2,h4,h2,h3⟩
  refine⟨max k k',s2,q7t Γ base ⟨ts,h,clk⟩ o h'::fs2, ?_,by rw[hf];exact h2,h3⟩
  simp only[z2w,hs,x1z (Nat.le_max_left k k') _ _ _ _ _ hc,q0y (q0g (z9d (Nat.le_max_right k k'))) h4,Option.map_some]
  rfl
theorem v5o {f:Nat} {args:List AOpd}:O Γ base m g (⟨dst, .call f args,none⟩::os) ⟨ts,h,clk⟩ ks Q=CK Γ base f (args.map (·.ev ts)) h clk m dst g os ts ks Q:=
 j4o (fun _=>rfl) (fun _=>rfl)
def VK (Γ:AProg) (base:Nat) (x:AV) (asx:List AV) (h:List AObj) (clk:Nat) (m:Md) (dst:Option Nat) (g:Nat) (os:List AOper) (ts:Tmps) (ks:List Kf) (Q:Post):Prop:=
 match x with
 | .fn f cap=>CK Γ base f (asx++cap) h clk m dst g os ts ks Q
 | _=>False
theorem w6t {f:Nat} {cap asx:List AV}:VK Γ base (.fn f cap) asx h clk m dst g os ts ks Q=CK Γ base f (asx++cap) h clk m dst g os ts ks Q:=(rfl)
theorem k7z {x:AOpd} {args:List AOpd}:O Γ base m g (⟨dst, .callv x args,none⟩::os) ⟨ts,h,clk⟩ ks Q=VK Γ base (x.ev ts) (args.map (·.ev ts)) h clk m dst g os ts ks Q:=by
 unfold VK
 split
 ·rename_i f cap hx
  refine j4o (fun k=> ?_) (fun h'=> ?_)
  ·simp only[stepA,z5h,hx]
   rfl
  ·simp only[q7t,z5h,foot,hx,if_true]
 ·rename_i hn
  refine x7f (fun k=> ?_)
  simp only[stepA,z5h]
def Pure (Γ:AProg) (f:Nat) (args:List AV) (v:AV):Prop:=∀ h clk,(∃ k,z5i Γ k f args h clk=some (v,h,clk))∧z0v Γ f args h=[]
theorem z0a {f:Nat} {asx:List AV} {v:AV} (hp:Pure Γ f asx v):CK Γ base f asx h clk m dst g os ts ks Q=O Γ base (m.add ([],[])) (g + 1) os ⟨z8n ts dst v,h,clk⟩ ks Q:=by
 obtain⟨⟨k,hk⟩,hf⟩:=hp h clk
 unfold CK
 apply propext
 constructor
 ·rintro ⟨k',v',h',c,hc,hq⟩
  have:=q7s hk hc
  simp only[Prod.mk.injEq] at this
  obtain⟨rfl,rfl,rfl⟩:=this
  rw[hf] at hq
  exact hq
 ·intro hq
  refine⟨k,v,h,clk,hk, ?_⟩
  rw[hf]
  exact hq
theorem z0t {b:ACode} (I:Nat→St→Prop) (n:Nat) (h0:I n s)
  (hstep:∀ m s (P:Post),I m s→(∀ m' s',m' < m→I m' s'→P .norm s')→(∀ i s',K Γ base (.exit i) ks s' Q→P (.exit i) s')→(∀ s',K Γ base .ret ks s' Q→P .ret s')→K Γ base b [] s P):K Γ base (.loop b) ks s Q:=by
 have key:∀ R:Post,(∀ m s (P:Post),I m s→(∀ m' s',m' < m→I m' s'→P .norm s')→(∀ i s',R (.exit i) s'→P (.exit i) s')→(∀ s',R .ret s'→P .ret s')→W Γ base b s P)→W Γ base (.loop b) s R:=by
  intro R hst
  clear hstep
  induction n using Nat.strongRecOn generalizing s with
  | ind n ih=>
    obtain⟨k,e,s1,h1,h2⟩:=hst n s (fun e s'=>match e with
     | .norm=>∃ m',m' < n∧I m' s'
     | e=>R e s') h0 (fun m' s' hm hi=>⟨m',hm,hi⟩) (fun i s' h=>h) (fun s' h=>h)
    cases e with
    | norm=>
      obtain⟨m',hm,hi⟩:=h2
      obtain⟨k2,e2,s2,h3,h4⟩:=ih m' hm hi
      refine⟨max k k2 + 1,e2,s2, ?_,h4⟩
      rw[z3p]
      simp only[z9d (Nat.le_max_left k k2) _ _ _ _ h1]
      exact z9d (Nat.le_max_right k k2) _ _ _ _ h3
    | exit i=>exact⟨k + 1, .exit i,s1,by rw[z3p];simp only[h1],h2⟩
    | ret=>exact⟨k + 1, .ret,s1,by rw[z3p];simp only[h1],h2⟩
 cases ks with
 | nil=>
   refine key Q fun m s P hi hn he hr=>hstep m s P hi hn (fun i s' h=> ?_) (fun s' h=> ?_)
   ·exact he i s' (by rw[x0u] at h;exact h)
   ·exact hr s' (by rw[x4q] at h;exact h)
 | cons f ks=>
   refine key _ fun m s P hi hn he hr=>hstep m s P hi hn (fun i s' h=> ?_) (fun s' h=> ?_)
   ·refine he i s' ?_
    unfold K at h
    rw[x9i] at h
    exact h
   ·refine hr s' ?_
    unfold K at h
    rw[k0o] at h
    exact h
theorem k0s {x:AOpd} {p q:Nat} {a b:ACode} {f n:Nat} {v:AV} (hx:x.ev s.ts= .bwd f v) (hn:z6k v=some n) (hf:Γ.iters.contains f=true) (J:Nat→List AObj→Nat→Prop)
  (h0:J n s.h s.clk) (hstep:∀ i h c (P:Post),i < n→J (i + 1) h c→(∀ s',J i s'.h s'.clk→P .norm s')→∃ xv,q5h h v i=some xv∧K Γ base a [.seq b] ⟨upd (upd s.ts p (.int .i64 i)) q xv,h,c⟩ P)
  (hQ:∀ h c,J 0 h c→K Γ base .skip ks ⟨s.ts,h,c⟩ Q):K Γ base (.rangeB x p q a b) ks s Q:=by
 have key:∀ i h c,i≤n→J i h c→∃ h' c',J 0 h' c'∧∃ k,q0s (fun s=>match z3p Γ k base a s with
   | some (.norm,s')=>z3p Γ k base b s'
   | r=>r) v s.ts p q i (h,c)=some (h',c'):=by
  intro i
  induction i with
  | zero=>intro h c _ hj;exact⟨h,c,hj,0,rfl⟩
  | succ i ih=>
    intro h c hi hj
    obtain⟨xv,hxv,hw⟩:=hstep i h c (fun e s'=>e= .norm∧J i s'.h s'.clk) (by omega) hj (fun s' h=>⟨rfl,h⟩)
    rw[←k7t] at hw
    obtain⟨k,e,s1,h1,rfl,hj2⟩:=hw
    obtain⟨h',c',h5,k2,h6⟩:=ih s1.h s1.clk (by omega) hj2
    cases k with
    | zero=>cases h1
    | succ k=>
    rw[z3p] at h1
    have hle:∀ {k k':Nat},k≤k'→∀ s r,(match z3p Γ k base a s with
     | some (.norm,s')=>z3p Γ k base b s'
     | r=>r)=some r→(match z3p Γ k' base a s with
     | some (.norm,s')=>z3p Γ k' base b s'
     | r=>r)=some r:=by
     intro k k' hk s r hr
     cases hx:z3p Γ k base a s with
     | none=>rw[hx] at hr;cases hr
     | some q=>
       rw[hx] at hr
       rw[z9d hk _ _ _ _ hx]
       obtain⟨e,s2⟩:=q
       cases e with
       | norm=>exact z9d hk _ _ _ _ hr
       | exit i=>exact hr
       | ret=>exact hr
    refine⟨h',c',h5,max k k2, ?_⟩
    simp only[q0s,hxv]
    rw[hle (Nat.le_max_left k k2) _ _ h1]
    exact q2p (hle (Nat.le_max_right k k2)) h6
 obtain⟨h',c',h1,k,h2⟩:=key n s.h s.clk (Nat.le_refl _) h0
 have:=hQ h' c' h1
 have e1:z3p Γ (k + 1) base (.rangeB x p q a b) s=some (.norm,⟨s.ts,h',c'⟩):=by
  rw[z3p]
  simp only[hx,hn,hf,if_true]
  exact congrArg (Option.map fun m=>(AEx.norm,(⟨s.ts,m.1,m.2⟩:St))) h2
 cases ks with
 | nil=>
   rw[x0t] at this
   exact⟨k + 1,_,_,e1,this⟩
 | cons f ks=>
   unfold K at this
   rw[q5r] at this
   exact⟨k + 1,_,_,e1,this⟩
end
end
section
mutual
def AV.cv:AV→AV
 | .agg cs=> .agg (cvL cs)
 | .tup cs=> .tup (cvL cs)
 | .sl xs _=> .sl xs .no
 | v=>v
def cvL:List AV→List AV
 | []=>[]
 | v::vs=>v.cv::cvL vs
end
mutual
theorem q4s {h:List AObj}:∀ {v:AV},v.obs=[]→conv h v=some v.cv
 | .agg cs,ho=>by
   simp only[conv,AV.cv,q6j (by simpa only[AV.obs] using ho),Option.map_some]
 | .tup cs,ho=>by
   simp only[conv,AV.cv,q6j (by simpa only[AV.obs] using ho),Option.map_some]
 | .ob ..,ho=>by simp[AV.obs] at ho
 | .sl _ _,_=>rfl
 | .undef,_=>rfl
 | .int ..,_=>rfl
 | .bool _,_=>rfl
 | .str _,_=>rfl
 | .ptr ..,_=>rfl
 | .iptr ..,_=>rfl
 | .nilptr,_=>rfl
 | .mp ..,_=>rfl
 | .nilmap,_=>rfl
 | .fn ..,_=>rfl
 | .nilfn,_=>rfl
 | .nilif,_=>rfl
 | .bwd ..,_=>rfl
theorem q6j {h:List AObj}:∀ {vs:List AV},z4x vs=[]→z9f h vs=some (cvL vs)
 | [],_=>rfl
 | v::vs,ho=>by
   simp only[z4x,List.append_eq_nil_iff] at ho
   simp only[z9f,cvL,q4s ho.1,q6j ho.2]
end
theorem z1k {h:List AObj}:∀ {vs:List AV} {i:Nat},z4x vs=[]→z1f h [] i vs=some (cvL vs)
 | [],_,_=>rfl
 | v::vs,i,ho=>by
   simp only[z4x,List.append_eq_nil_iff] at ho
   simp only[z1f,cvL,List.contains_nil,Bool.false_eq_true,if_false,q4s ho.1,z1k ho.2]
theorem z5b:∀ {vs:List AV} {i:Nat},z4x vs=[]→z0n [] i vs=[]
 | [],_,_=>rfl
 | v::vs,i,ho=>by
   simp only[z4x,List.append_eq_nil_iff] at ho
   simp only[z0n,List.contains_nil,Bool.false_eq_true,if_false,ho.1,z5b ho.2,List.append_nil]
theorem z3v {T:List Nat}:∀ {h:List AObj} {k:Nat},(maskFrom T k h).length=h.length
 | [],_=>rfl
 | o::h,k=>by simp[maskFrom,z3v]
theorem x4r {T:List Nat}:∀ {h:List AObj} {k i:Nat},T.contains (k + i)=true→(maskFrom T k h)[i]? =h[i]?
 | [],_,_,_=>rfl
 | o::h,k,0,ht=>by
   rw[Nat.add_zero] at ht
   simp only[maskFrom,ht,if_true,List.getElem?_cons_zero]
 | o::h,k,i + 1,ht=>by
   simp only[maskFrom,List.getElem?_cons_succ]
   exact x4r (by rw[Nat.add_assoc,Nat.add_comm 1 i];exact ht)
theorem z5n:∀ {h h':List AObj} {k:Nat},z0m [] k h h'=h
 | [],[],_=>rfl
 | [],_::_,_=>rfl
 | o::h,[],_=>rfl
 | o::h,o'::h',k=>by simp[z0m,z5n]
theorem x4s {s:Nat}:∀ {h h':List AObj} {k:Nat} {o:AObj},s < h.length→h'[s]? =some o→z0m [k + s] k h h'=h.set s o
 | [],h',k,o,hs,_=>by simp at hs
 | a::h,[],k,o,hs,ho=>by simp at ho
 | a::h,b::h',k,o,hs,ho=>by
   cases s with
   | zero=>
     simp at ho
     subst ho
     have:∀ {h h':List AObj} {j:Nat},k < j→z0m [k] j h h'=h:=by
      intro h
      induction h with
      | nil=>intro h' j _;cases h' <;> rfl
      | cons x h ih=>
        intro h' j hj
        cases h' with
        | nil=>rfl
        | cons y h'=>
          have hne:¬ j=k:=by omega
          simp only[z0m,List.contains_cons,List.contains_nil,Bool.or_false,beq_iff_eq,hne,if_false]
          rw[ih (by omega)]
     simp only[z0m,Nat.add_zero,List.contains_cons,List.contains_nil,Bool.or_false,beq_self_eq_true,if_true,List.set_cons_zero]
     rw[this (by omega)]
   | succ s=>
     have hne:¬ k=k + (s + 1):=by omega
     simp only[z0m,List.contains_cons,List.contains_nil,Bool.or_false,beq_iff_eq,hne,if_false,List.set_cons_succ]
     rw[show k + (s + 1)=k + 1 + s by omega,x4s (by simpa using hs) (by simpa using ho)]
def x4t (T:List Nat) (os:List (Nat×Nat)):Bool:=os.all fun p=> !T.contains p.1
def RV (T:List Nat) (x:Option (List AV)) (R:AV→List AObj→Prop) (h:List AObj):Prop:=
 match x with
 | some vs=>∃ v,conv h (z1o vs)=some v∧v.ids=[]∧x4t T (z1o vs).obs=true∧R v h
 | none=>False
def j4p (T:List Nat) (rs:List ARes) (R:AV→List AObj→Prop):Post:=fun e s=>(∀ i,e≠ .exit i)∧RV T (z1j s.h s.ts rs) R s.h
theorem z0h {T:List Nat} {vs:List AV} {R:AV→List AObj→Prop} {h:List AObj} (ho:(z1o vs).obs=[]) (hi:(z1o vs).cv.ids=[]):RV T (some vs) R h=R (z1o vs).cv h:=by
 apply propext
 constructor
 ·rintro ⟨v,h1,_,_,h2⟩
  rw[q4s ho] at h1
  injection h1 with h1
  subst h1
  exact h2
 ·exact fun hr=>⟨_,q4s ho,hi,by rw[ho];rfl,hr⟩
section
variable {Γ:AProg}
theorem q4t {s:Nat}:∀ {os:List (Nat×Nat)} {h:List AObj},os.all (fun p=> !([s].contains p.1))=true→(freezeAll h os)[s]? =h[s]?
 | [],_,_=>rfl
 | o::os,h,ho=>by
   simp only[List.all_cons,Bool.and_eq_true,Bool.not_eq_true'] at ho
   simp only[freezeAll]
   rw[q4t (by simpa using ho.2)]
   have hne:o.1≠s:=by
    have:=ho.1
    simp at this
    exact this
   split
   ·rw[List.getElem?_set_ne hne]
   ·rfl
theorem x2a {T:List Nat} {rs:List ARes} {R:AV→List AObj→Prop} {e:AEx} {s:St} (h:j4p T rs R e s):(∀ i,e≠ .exit i)∧∃ vs v,z1j s.h s.ts rs=some vs∧conv s.h (z1o vs)=some v∧v.ids=[]∧x4t T (z1o vs).obs=true∧R v s.h:=by
 obtain⟨h1,h2⟩:=h
 refine⟨h1, ?_⟩
 unfold RV at h2
 split at h2
 ·rename_i vs hv
  obtain⟨v,h3,h4,h5,h6⟩:=h2
  exact⟨vs,v,hv,h3,h4,h5,h6⟩
 ·exact h2.elim
theorem k0t {T:List Nat} {rs:List ARes} {R:AV→List AObj→Prop} {ts:Tmps} {h:List AObj} {c:Nat}:j4p T rs R .ret ⟨ts,h,c⟩=RV T (z1j h ts rs) R h:=by
 simp[j4p]
theorem j4q {T:List Nat} {rs:List ARes} {R:AV→List AObj→Prop} {ts:Tmps} {h:List AObj} {c:Nat}:j4p T rs R .norm ⟨ts,h,c⟩=RV T (z1j h ts rs) R h:=by
 simp[j4p]
theorem q7v {f:Nat} {args az:List AV} {h:List AObj} {clk:Nat} {af:AFun} {Q:AV→List AObj→Nat→Prop} (hext:Γ.ext f=none) (hfn:Γ.fn f=some af) (hb:af.byref=[]) (ho:af.owned=false) (hobs:z4x args=[]) (has:cvL args=az) (hids:idsL az=[])
  (hw:∀ (D:List AObj) (B:Nat) (R:AV→List AObj→Prop),D.length=B→(∀ v h',Q v h clk→R v h')→K Γ B af.body [] ⟨z9h az,D++List.replicate af.nslots .dead,clk⟩ (j4p [] af.results fun v h'=>R v h')):WC Γ f args h clk Q:=by
 obtain⟨k,e,s,he,hend⟩:=hw (maskFrom [] 0 h) _ (fun v _=>Q v h clk) rfl (fun _ _ h=>h)
 obtain⟨hne,vs,v,hr,hc,hv,_,hQ⟩:=x2a hend
 rw[z3v] at he
 refine⟨k,v,h,clk, ?_,hQ⟩
 have hp:z1f h af.byref 0 args=some az:=by rw[hb,z1k hobs,has]
 have hl:z0n af.byref 0 args=[]:=by rw[hb];exact z5b hobs
 unfold z5i z0i
 simp only[hext,hfn,hp,hl,freezeAll,hids,reach,he,ho,Bool.false_eq_true,if_false,hr,hc,z5n]
 cases e with
 | exit i=>exact absurd rfl (hne i)
 | norm=>simp[hv]
 | ret=>simp[hv]
theorem q0h {f:Nat} {args az:List AV} {h:List AObj} {af:AFun} (hfn:Γ.fn f=some af) (hb:af.byref=[]) (hobs:z4x args=[]) (has:cvL args=az) (hids:idsL az=[]):z0v Γ f args h=[]:=by
 unfold z0v
 rw[hobs]
 cases Γ.ext f with
 | some _=>rfl
 | none=>
   have hp:z1f h af.byref 0 args=some az:=by rw[hb,z1k hobs,has]
   simp only[hfn,hp,hids,reach]
   rfl
theorem Pure.of {f:Nat} {args az:List AV} {v:AV} {af:AFun} (hext:Γ.ext f=none) (hfn:Γ.fn f=some af) (hb:af.byref=[]) (ho:af.owned=false) (hobs:z4x args=[]) (has:cvL args=az) (hids:idsL az=[])
  (hw:∀ (D:List AObj) (B clk:Nat) (R:AV→List AObj→Prop),D.length=B→(∀ h',R v h')→K Γ B af.body [] ⟨z9h az,D++List.replicate af.nslots .dead,clk⟩ (j4p [] af.results R)):Pure Γ f args v:=fun h clk=>by
 refine⟨?_,q0h hfn hb hobs has hids⟩
 obtain⟨k,v',h',c,he,rfl,rfl,rfl⟩:=q7v (Q:=fun v' h' c'=>v'=v∧h'=h∧c'=clk) hext hfn hb ho hobs has hids (fun D B R hB hR=>hw D B clk R hB (fun h'=>hR v h' ⟨rfl,rfl,rfl⟩))
 exact⟨k,he⟩
theorem x9j {T:List Nat}:∀ {h:List AObj} {k i:Nat},T.contains (k + i)=true→(maskFrom T k h)[i]? =h[i]?
 | [],_,_,_=>rfl
 | o::h,k,0,hc=>by
   rw[Nat.add_zero] at hc
   simp only[maskFrom,hc,if_true,List.getElem?_cons_zero]
 | o::h,k,i + 1,hc=>by
   simp only[maskFrom,List.getElem?_cons_succ]
   exact x9j (by rw[Nat.add_assoc,Nat.add_comm 1 i];exact hc)
theorem v5p {f s:Nat} {args az:List AV} {h:List AObj} {clk:Nat} {af:AFun} {obj:AObj} {Q:AV→List AObj→Nat→Prop} (hext:Γ.ext f=none) (hfn:Γ.fn f=some af) (hb:af.byref=[]) (ho:af.owned=false) (hobs:z4x args=[]) (has:cvL args=az) (hids:idsL az=[s]) (hs:h[s]? =some obj) (hoi:obj.ids=[])
  (hw:∀ (D:List AObj) (B:Nat) (R:AV→List AObj→Prop),D.length=B→D[s]? =some obj→s < B→(∀ v h' o',h'[s]? =some o'→o'.ids=[]→Q v (h.set s o') clk→R v h')→K Γ B af.body [] ⟨z9h az,D++List.replicate af.nslots .dead,clk⟩ (j4p [s] af.results R)):WC Γ f args h clk Q:=by
 have hlt:s < h.length:=by
  rw[List.getElem?_eq_some_iff] at hs
  exact hs.1
 have hp:z1f h af.byref 0 args=some az:=by rw[hb,z1k hobs,has]
 have hl:z0n af.byref 0 args=[]:=by rw[hb];exact z5b hobs
 obtain⟨k,e,s1,he,hend⟩:=hw (maskFrom [s] 0 h) _ (fun v h'=>∃ o',h'[s]? =some o'∧o'.ids=[]∧Q v (h.set s o') clk) rfl (by rw[x9j (by simp)];exact hs) (by rw[z3v];exact hlt) (fun v h' o' h1 h2 h3=>⟨o',h1,h2,h3⟩)
 obtain⟨hne,vs,v,hr,hc,hv,hno,o',h1,h2,hQ⟩:=x2a hend
 rw[z3v] at he
 refine⟨k,v,h.set s o',clk, ?_,hQ⟩
 have hreach:reach h (h.length + 1) [] [s]=[s]:=by
  simp only[reach,List.contains_nil,Bool.false_eq_true,if_false,hs,Option.map_some,hoi,Option.getD_some,List.nil_append]
  cases h.length <;> rfl
 have hfr:(freezeAll s1.h (z1o vs).obs)[s]? =some o':=by
  rw[q4t (by simpa [x4t] using hno),h1]
 have hm:z0m [s] 0 h (freezeAll s1.h (z1o vs).obs)=h.set s o':=by
  have:=x4s (s:=s) (h:=h) (h':=freezeAll s1.h (z1o vs).obs) (k:=0) hlt hfr
  rw[Nat.zero_add] at this
  exact this
 unfold z5i z0i
 simp only[hext,hfn,hp,hl,freezeAll,hids,hreach,he,ho,Bool.false_eq_true,if_false,hr,hc,List.isEmpty_cons,Bool.and_false,hm]
 have hall:((v.ids++(List.map (fun i=>(Option.map AObj.ids (freezeAll s1.h (z1o vs).obs)[i]?).getD []) [s]).flatten).all fun x=>decide (x < h.length))=true:=by
  simp[hv,hfr,h2]
 cases e with
 | exit i=>exact absurd rfl (hne i)
 | norm=>simp only[hall,if_true]
 | ret=>simp only[hall,if_true]
section
variable {h:List AObj} {base g:Nat} {ts:Tmps}
def j4r (h:List AObj):AV→AV→AV→Option (AV×List AObj)
 | .bool t,a,b=>some (if t then a else b,h)
 | _,_,_=>none
def k8a (h:List AObj) (slot g:Nat) (v:AV):Option (AV×List AObj):=
 if v.cells.isEmpty || !v.def? then none else some (.ptr slot g 0 0,h.set slot (.blk g [v] false false 0))
def q0z (h:List AObj) (sz:Option Nat):AV→Option (AV×List AObj)
 | .ptr s g i o=>match z2a h s g with
   | some (es,_,_,_)=>(es[i]?).bind fun e=>(z1q e.cells o sz).map (·,h)
   | none=>none
 | .iptr cs o=>(z1q cs o sz).map (·,h)
 | _=>none
def z8x (h:List AObj) (sz:Nat) (v:AV):AV→Option (AV×List AObj)
 | .ptr s g i o=>match z2a h s g with
   | some (es,row,grow,fz)=>
     match es[i]?,(if row then pub h v else some (v,h)) with
     | some e,some (v',h')=>
       if v'.def? =true∧v'.cells.length=sz∧v'.cells.all AV.one=true∧(row=true→fz≤i∧ !(v.obs.map (·.1)).contains s) then
        (q0n e.cells o v'.cells).map fun cs=>(.undef,h'.set s (.blk g (es.set i (z9e e cs)) row grow fz))
       else none
     | _,_=>none
   | none=>none
 | _=>none
def j4s (h:List AObj) (o:Nat):AV→Option (AV×List AObj)
 | .ptr s g i p=>some (.ptr s g i (p + o),h)
 | .iptr cs p=>some (.iptr cs (p + o),h)
 | _=>none
def k0u (h:List AObj):AV→Option (AV×List AObj)
 | .ptr s g i o=>some (.ptr s g i o,h)
 | .iptr cs o=>some (.iptr cs o,h)
 | _=>none
def w6d (h:List AObj) (i:Nat):AV→Option (AV×List AObj)
 | .tup cs=>(cs[i]?).map (·,h)
 | _=>none
def z7j (h:List AObj) (op:BinOp) (t:ETy) (x y:AV):Option (AV×List AObj):=(z4o op t x y).map (·,h)
def k4n (h:List AObj) (t:LenTy) (x:AV):Option (AV×List AObj):=(z9g h t x).map (·,h)
def unV (h:List AObj) (op:UnOp) (x:AV):Option (AV×List AObj):=(j9q op x).map (·,h)
def k8b (h:List AObj) (k:IntKind):AV→Option (AV×List AObj)
 | .int _ n=>some (.int k (k.wrap n),h)
 | _=>none
def z1t (h:List AObj) (esz:Nat):AV→AV→Option (AV×List AObj)
 | .sl xs _, .int _ i=>if 0≤i then match xs[i.toNat]? with
   | some e=>if e.cells.length=esz then some (.iptr e.cells 0,h) else none
   | none=>none
   else none
 | .ob s g off len, .int _ i=>if 0≤i then match z2a h s g with
   | some (es,true,_,_)=>match es[off + i.toNat]? with
     | some e=>if i.toNat < len∧e.cells.length=esz then some (.ptr s g (off + i.toNat) 0,h) else none
     | none=>none
   | _=>none
   else none
 | _,_=>none
def q3s (h:List AObj):AV→AV→Option (AV×List AObj)
 | .str s, .int _ i=>if 0≤i then (s[i.toNat]?).map fun (b:Nat)=>(.int .u8 (Int.ofNat b),h) else none
 | _,_=>none
theorem k4o {c a b:AOpd}:prim h base g ts (.pick c a b)=j4r h (c.ev ts) (a.ev ts) (b.ev ts):=by
 simp only[prim]
 cases c.ev ts <;> simp only[j4r]
 rename_i t
 cases t <;> rfl
theorem k8c {k:Nat} {z:AV}:prim h base g ts (.alloc k z)=k8a h (base + k) g z:=(rfl)
theorem w6u {k:Nat} {x:AOpd}:prim h base g ts (.box k x)=k8a h (base + k) g (x.ev ts):=(rfl)
theorem k8d {z:List AV} {ps:List (Nat×Nat×AOpd)}:prim h base g ts (.build z ps)=(z5k z (ps.map fun p=>(p.1,p.2.1,p.2.2.ev ts))).map fun cs=>(.agg cs,h):=(rfl)
theorem v5q {sz:Option Nat} {a:AOpd}:prim h base g ts (.load sz a)=q0z h sz (a.ev ts):=by
 simp only[prim];cases a.ev ts <;> rfl
theorem k8e {sz:Nat} {a x:AOpd}:prim h base g ts (.store sz a x)=z8x h sz (x.ev ts) (a.ev ts):=by
 simp only[prim];cases a.ev ts <;> rfl
theorem j1q {x:AOpd}:prim h base g ts (.nilCheck x)=k0u h (x.ev ts):=by
 simp only[prim];cases x.ev ts <;> rfl
theorem k8f {op:BinOp} {t:ETy} {x y:AOpd}:prim h base g ts (.binOp op t x y)=z7j h op t (x.ev ts) (y.ev ts):=(rfl)
theorem v5r {op:UnOp} {x:AOpd}:prim h base g ts (.unOp op x)=unV h op (x.ev ts):=(rfl)
theorem v5s {k:IntKind} {x:AOpd}:prim h base g ts (.cInt k x)=k8b h k (x.ev ts):=by
 simp only[prim];cases x.ev ts <;> rfl
theorem x7g {x:AOpd} {o:Nat}:prim h base g ts (.fieldAddr x o)=j4s h o (x.ev ts):=by
 simp only[prim];cases x.ev ts <;> rfl
theorem q7w {esz:Nat} {x ix:AOpd}:prim h base g ts (.indexAddr none esz x ix)=z1t h esz (x.ev ts) (ix.ev ts):=by
 simp only[prim];cases ix.ev ts <;> cases x.ev ts <;> simp only[z1t] <;> split <;> rfl
theorem k0v {x ix:AOpd}:prim h base g ts (.index none x ix)=q3s h (x.ev ts) (ix.ev ts):=by
 simp only[prim];cases ix.ev ts <;> cases x.ev ts <;> simp only[q3s] <;> split <;> rfl
theorem j1r {f:Nat} {cap:List AOpd}:prim h base g ts (.makeFunc f cap)=some (.fn f (cap.map (·.ev ts)),h):=(rfl)
theorem j4t {x:AOpd} {i:Nat}:prim h base g ts (.extract x i)=w6d h i (x.ev ts):=by
 simp only[prim];cases x.ev ts <;> rfl
theorem w6v {t:LenTy} {x:AOpd}:prim h base g ts (.len t x)=k4n h t (x.ev ts):=(rfl)
theorem k0w {k esz b:Nat} {mu:Bool} {x y:AOpd}:prim h base g ts (.append k esz b mu x y)=z1d h (base + k) g esz b mu (x.ev ts) (y.ev ts):=(rfl)
theorem j4u {k:Nat}:prim h base g ts (.makeMap k)=some (.mp (base + k) g,h.set (base + k) (.map g [])):=(rfl)
def PP (Γ:AProg) (base:Nat) (x:Option (AV×List AObj)) (dst:Option Nat) (g:Nat) (os:List AOper) (ts:Tmps) (clk:Nat) (ks:List Kf) (Q:Post):Prop:=
 match x with
 | some (v,h')=>O Γ base .plain (g + 1) os ⟨z8n ts dst v,h',clk⟩ ks Q
 | none=>False
section
variable {clk:Nat} {ks:List Kf} {Q:Post} {os:List AOper} {dst:Option Nat} {m:Md}
theorem j4v {v:AV} {d:Nat}:PP Γ base (some (v,h)) (some d) g os ts clk ks Q=O Γ base .plain (g + 1) os ⟨upd ts d v,h,clk⟩ ks Q:=(rfl)
theorem k8g {v:AV}:PP Γ base (some (v,h)) none g os ts clk ks Q=O Γ base .plain (g + 1) os ⟨ts,h,clk⟩ ks Q:=(rfl)
theorem q2r {op:AOp} (hop:op.isCall=false):O Γ base .plain g (⟨dst,op,none⟩::os) ⟨ts,h,clk⟩ ks Q=PP Γ base (prim h base g ts op) dst g os ts clk ks Q:=z6f hop
theorem k4p {x:AOpd} {d:Nat}:O Γ base .plain g (⟨some d, .move x,none⟩::os) ⟨ts,h,clk⟩ ks Q=O Γ base .plain (g + 1) os ⟨upd ts d (x.ev ts),h,clk⟩ ks Q:=z6f rfl
theorem v5t {c a b:AOpd}:O Γ base .plain g (⟨dst,(.pick c a b),none⟩::os) ⟨ts,h,clk⟩ ks Q=PP Γ base (j4r h (c.ev ts) (a.ev ts) (b.ev ts)) dst g os ts clk ks Q:=by rw[q2r rfl,k4o]
theorem k8h {k:Nat} {z:AV}:O Γ base .plain g (⟨dst,(.alloc k z),none⟩::os) ⟨ts,h,clk⟩ ks Q=PP Γ base (k8a h (base + k) g z) dst g os ts clk ks Q:=by rw[q2r rfl,k8c]
theorem w6w {k:Nat} {x:AOpd}:O Γ base .plain g (⟨dst,(.box k x),none⟩::os) ⟨ts,h,clk⟩ ks Q=PP Γ base (k8a h (base + k) g (x.ev ts)) dst g os ts clk ks Q:=by rw[q2r rfl,w6u]
theorem k8i {z:List AV} {ps:List (Nat×Nat×AOpd)}:O Γ base .plain g (⟨dst,(.build z ps),none⟩::os) ⟨ts,h,clk⟩ ks Q=PP Γ base ((z5k z (ps.map fun p=>(p.1,p.2.1,p.2.2.ev ts))).map fun cs=>(.agg cs,h)) dst g os ts clk ks Q:=by rw[q2r rfl,k8d]
theorem v5u {sz:Option Nat} {a:AOpd}:O Γ base .plain g (⟨dst,(.load sz a),none⟩::os) ⟨ts,h,clk⟩ ks Q=PP Γ base (q0z h sz (a.ev ts)) dst g os ts clk ks Q:=by rw[q2r rfl,v5q]
theorem k8j {sz:Nat} {a x:AOpd}:O Γ base .plain g (⟨dst,(.store sz a x),none⟩::os) ⟨ts,h,clk⟩ ks Q=PP Γ base (z8x h sz (x.ev ts) (a.ev ts)) dst g os ts clk ks Q:=by rw[q2r rfl,k8e]
theorem j1s {x:AOpd}:O Γ base .plain g (⟨dst,(.nilCheck x),none⟩::os) ⟨ts,h,clk⟩ ks Q=PP Γ base (k0u h (x.ev ts)) dst g os ts clk ks Q:=by rw[q2r rfl,j1q]
theorem j4w {op:BinOp} {t:ETy} {x y:AOpd}:O Γ base .plain g (⟨dst,(.binOp op t x y),none⟩::os) ⟨ts,h,clk⟩ ks Q=PP Γ base (z7j h op t (x.ev ts) (y.ev ts)) dst g os ts clk ks Q:=by rw[q2r rfl,k8f]
theorem v5v {op:UnOp} {x:AOpd}:O Γ base .plain g (⟨dst,(.unOp op x),none⟩::os) ⟨ts,h,clk⟩ ks Q=PP Γ base (unV h op (x.ev ts)) dst g os ts clk ks Q:=by rw[q2r rfl,v5r]
theorem v5w {k:IntKind} {x:AOpd}:O Γ base .plain g (⟨dst,(.cInt k x),none⟩::os) ⟨ts,h,clk⟩ ks Q=PP Γ base (k8b h k (x.ev ts)) dst g os ts clk ks Q:=by rw[q2r rfl,v5s]
theorem x7h {x:AOpd} {o:Nat}:O Γ base .plain g (⟨dst,(.fieldAddr x o),none⟩::os) ⟨ts,h,clk⟩ ks Q=PP Γ base (j4s h o (x.ev ts)) dst g os ts clk ks Q:=by rw[q2r rfl,x7g]
theorem x7i {esz:Nat} {x ix:AOpd}:O Γ base .plain g (⟨dst,(.indexAddr none esz x ix),none⟩::os) ⟨ts,h,clk⟩ ks Q=PP Γ base (z1t h esz (x.ev ts) (ix.ev ts)) dst g os ts clk ks Q:=by rw[q2r rfl,q7w]
theorem k0x {x ix:AOpd}:O Γ base .plain g (⟨dst,(.index none x ix),none⟩::os) ⟨ts,h,clk⟩ ks Q=PP Γ base (q3s h (x.ev ts) (ix.ev ts)) dst g os ts clk ks Q:=by rw[q2r rfl,k0v]
theorem j1t {f:Nat} {cap:List AOpd}:O Γ base .plain g (⟨dst,(.makeFunc f cap),none⟩::os) ⟨ts,h,clk⟩ ks Q=PP Γ base (some (.fn f (cap.map (·.ev ts)),h)) dst g os ts clk ks Q:=by rw[q2r rfl,j1r]
theorem j4x {x:AOpd} {i:Nat}:O Γ base .plain g (⟨dst,(.extract x i),none⟩::os) ⟨ts,h,clk⟩ ks Q=PP Γ base (w6d h i (x.ev ts)) dst g os ts clk ks Q:=by rw[q2r rfl,j4t]
theorem w6x {t:LenTy} {x:AOpd}:O Γ base .plain g (⟨dst,(.len t x),none⟩::os) ⟨ts,h,clk⟩ ks Q=PP Γ base (k4n h t (x.ev ts)) dst g os ts clk ks Q:=by rw[q2r rfl,w6v]
theorem k0y {k esz b:Nat} {mu:Bool} {x y:AOpd}:O Γ base .plain g (⟨dst,(.append k esz b mu x y),none⟩::os) ⟨ts,h,clk⟩ ks Q=PP Γ base (z1d h (base + k) g esz b mu (x.ev ts) (y.ev ts)) dst g os ts clk ks Q:=by rw[q2r rfl,k0w]
theorem j4y {k:Nat}:O Γ base .plain g (⟨dst,(.makeMap k),none⟩::os) ⟨ts,h,clk⟩ ks Q=PP Γ base (some (.mp (base + k) g,h.set (base + k) (.map g []))) dst g os ts clk ks Q:=by rw[q2r rfl,j4u]
end
theorem j1u {t:Bool} {a b:AV}:j4r h (.bool t) a b=some (if t then a else b,h):=(rfl)
theorem j1v {sz:Option Nat} {cs:List AV} {o:Nat}:q0z h sz (.iptr cs o)=(z1q cs o sz).map (·,h):=(rfl)
theorem j4z {sz:Option Nat} {s q i o:Nat}:q0z h sz (.ptr s q i o)=match z2a h s q with
 | some (es,_,_,_)=>(es[i]?).bind fun e=>(z1q e.cells o sz).map (·,h)
 | none=>none:=rfl
theorem j5a {s q i o:Nat}:k0u h (.ptr s q i o)=some (.ptr s q i o,h):=(rfl)
theorem j5b {s q i p o:Nat}:j4s h o (.ptr s q i p)=some (.ptr s q i (p + o),h):=(rfl)
theorem j1w {cs:List AV} {p o:Nat}:j4s h o (.iptr cs p)=some (.iptr cs (p + o),h):=(rfl)
theorem k0z {i:Nat} {cs:List AV}:w6d h i (.tup cs)=(cs[i]?).map (·,h):=(rfl)
theorem j5c {k j:IntKind} {n:Int}:k8b h k (.int j n)=some (.int k (k.wrap n),h):=(rfl)
theorem k8k {xs:List AV} {t:Tip}:k4n h .sl (.sl xs t)=some (.int .i64 xs.length,h):=(rfl)
theorem k1a {s:List Nat}:k4n h .str (.str s)=some (.int .i64 s.length,h):=(rfl)
theorem k8l {s q o l:Nat}:k4n h .sl (.ob s q o l)=some (.int .i64 l,h):=(rfl)
theorem k8m {b:Bool}:unV h .not (.bool b)=some (.bool (!b),h):=(rfl)
theorem k8n {k:IntKind} {n:Int}:unV h .neg (.int k n)=some (.int k (k.wrap (0 - n)),h):=(rfl)
section
variable {t:ETy} {k:IntKind} {a b:Int}
theorem k4q:z7j h .add t (.int k a) (.int k b)=some (.int k (k.wrap (a + b)),h):=by simp[z7j,z4o,z7e]
theorem v5x:z7j h .sub t (.int k a) (.int k b)=some (.int k (k.wrap (a - b)),h):=by simp[z7j,z4o,z7e]
theorem v5y:z7j h .mul t (.int k a) (.int k b)=some (.int k (k.wrap (a * b)),h):=by simp[z7j,z4o,z7e]
theorem x4u (hb:b≠0):z7j h .quo t (.int k a) (.int k b)=some (.int k (k.wrap (a.tdiv b)),h):=by simp[z7j,z4o,z7e,hb]
theorem q7x (hb:b≠0):z7j h .rem t (.int k a) (.int k b)=some (.int k (a.tmod b),h):=by simp[z7j,z4o,z7e,hb]
theorem v5z:z7j h .eql t (.int k a) (.int k b)=some (.bool (decide (a=b)),h):=by simp[z7j,z4o,z7e]
theorem v6a:z7j h .neq t (.int k a) (.int k b)=some (.bool (!decide (a=b)),h):=by simp[z7j,z4o,z7e]
theorem v6b:z7j h .lss t (.int k a) (.int k b)=some (.bool (decide (a < b)),h):=by simp[z7j,z4o,z7e]
theorem v6c:z7j h .leq t (.int k a) (.int k b)=some (.bool (decide (a≤b)),h):=by simp[z7j,z4o,z7e]
theorem v6d:z7j h .gtr t (.int k a) (.int k b)=some (.bool (decide (b < a)),h):=by simp[z7j,z4o,z7e]
theorem v6e:z7j h .geq t (.int k a) (.int k b)=some (.bool (decide (b≤a)),h):=by simp[z7j,z4o,z7e]
end
section
variable {t:ETy} {a b:List Nat}
theorem v6f:z7j h .eql t (.str a) (.str b)=some (.bool (decide (a=b)),h):=by simp[z7j,z4o,q5g]
theorem v6g:z7j h .neq t (.str a) (.str b)=some (.bool (!decide (a=b)),h):=by simp[z7j,z4o,q5g]
theorem v6h:z7j h .lss t (.str a) (.str b)=some (.bool (z4m a b),h):=by simp[z7j,z4o,q5g]
theorem q7y (hl:a.length + b.length < 2 ^ 60):z7j h .add t (.str a) (.str b)=some (.str (a++b),h):=by
 simp only[z7j,z4o,q5g,if_pos hl,Option.map_some]
end
theorem v6i {a b:Bool}:z7j h .neq (.one .bool) (.bool a) (.bool b)=some (.bool (!(a==b)),h):=by simp[z7j,z4o,AV.eqv,AV.eq1]
theorem z5c {xs:List AV} {t:Tip} {esz i:Nat} {k:IntKind} {e:AV} (hx:xs[i]? =some e) (he:e.cells.length=esz):z1t h esz (.sl xs t) (.int k (i:Int))=some (.iptr e.cells 0,h):=by
 simp only[z1t,Int.natCast_nonneg,if_true,Int.toNat_natCast,hx,he]
theorem x4v {s:List Nat} {i b:Nat} {k:IntKind} (hx:s[i]? =some b):q3s h (.str s) (.int k (i:Int))=some (.int .u8 (b:Int),h):=by
 simp only[q3s,Int.natCast_nonneg,if_true,Int.toNat_natCast,hx,Option.map_some]
 rfl
end
end
theorem z0b {ts:Tmps} {d j:Nat} {v:AV}:upd ts d v j=bif j==d then v else ts j:=by
 unfold upd
 by_cases h:j=d
 ·subst h;simp
 ·have:(j==d)=false:=by simpa using h
  rw[if_neg h,this];rfl
theorem k4r {ts:Tmps} {t:Nat}:(AOpd.tmp t).ev ts=ts t:=(rfl)
theorem x9k {ts:Tmps} {v:AV}:(AOpd.const v).ev ts=v:=(rfl)
theorem z2m {a:AV} {az:List AV}:z9h (a::az) 0=a:=(rfl)
theorem z6o {a:AV} {az:List AV} {n:Nat}:z9h (a::az) (n + 1)=z9h az n:=(rfl)
theorem k8o {h:List AObj} {ts:Tmps}:z1j h ts []=some []:=(rfl)
def v6j (v:AV):Option (List AV)→Option (List AV)
 | some vs=>some (v::vs)
 | none=>none
theorem j1x {v:AV} {vs:List AV}:v6j v (some vs)=some (v::vs):=(rfl)
theorem k8p {h:List AObj} {ts:Tmps} {t:Nat} {rs:List ARes}:z1j h ts (.tmp t::rs)=v6j (ts t) (z1j h ts rs):=by
 simp only[z1j];cases z1j h ts rs <;> rfl
theorem k1b {b:Bool}:(b==true)=b:=by cases b <;> rfl
theorem j5d {b:Bool}:(b==false)= !b:=by cases b <;> rfl
theorem z0c {n:Int} (h1: -9223372036854775808≤n) (h2:n≤9223372036854775807):IntKind.i64.wrap n=n:=IntWalk.i64_in _ ⟨h1,h2⟩
theorem z7x {a d:AV} {l:List AV}:(a::l).getD 0 d=a:=(rfl)
theorem q7z {k:IntKind} {n:Int}:(AV.int k n).cells=[(AV.int k n)]:=(rfl)
theorem j5e {k:IntKind} {n:Int}:(AV.int k n).def? =true:=(rfl)
theorem x7j {k:IntKind} {n:Int}:(AV.int k n).one=true:=(rfl)
theorem x0w {k:IntKind} {n:Int} {cs:List AV}:z9e (AV.int k n) cs=cs.getD 0 .undef:=(rfl)
theorem x0x {b:Bool}:(AV.bool b).cells=[(AV.bool b)]:=(rfl)
theorem x9l {b:Bool}:(AV.bool b).def? =true:=(rfl)
theorem x2b {b:Bool}:(AV.bool b).one=true:=(rfl)
theorem q8a {b:Bool} {cs:List AV}:z9e (AV.bool b) cs=cs.getD 0 .undef:=(rfl)
theorem j5f {s:List Nat}:(AV.str s).cells=[(AV.str s)]:=(rfl)
theorem k8q {s:List Nat}:(AV.str s).def? =true:=(rfl)
theorem j5g {s:List Nat}:(AV.str s).one=true:=(rfl)
theorem z2t {xs:List AV} {t:Tip}:(AV.sl xs t).cells=[(AV.sl xs t)]:=(rfl)
theorem v6k {xs:List AV} {t:Tip}:(AV.sl xs t).def? =true:=(rfl)
theorem v6l {xs:List AV} {t:Tip}:(AV.sl xs t).one=true:=(rfl)
theorem j5h {xs:List AV} {t:Tip} {cs:List AV}:z9e (AV.sl xs t) cs=cs.getD 0 .undef:=(rfl)
theorem k1c {a b c d:Nat}:(AV.ob a b c d).cells=[(AV.ob a b c d)]:=(rfl)
theorem v6m {a b c d:Nat}:(AV.ob a b c d).def? =true:=(rfl)
theorem j5i {a b c d:Nat}:(AV.ptr a b c d).cells=[(AV.ptr a b c d)]:=(rfl)
theorem k8r {a b c d:Nat}:(AV.ptr a b c d).def? =true:=(rfl)
theorem k8s {a b c d:Nat}:(AV.ptr a b c d).one=true:=(rfl)
theorem x4w:(AV.nilptr).cells=[(AV.nilptr)]:=(rfl)
theorem j1y:(AV.nilptr).def? =true:=(rfl)
theorem x2c {cs:List AV}:z9e (AV.nilptr) cs=cs.getD 0 .undef:=(rfl)
theorem k1d {a b:Nat}:(AV.mp a b).cells=[(AV.mp a b)]:=(rfl)
theorem v6n {a b:Nat}:(AV.mp a b).def? =true:=(rfl)
theorem v6o {a b:Nat}:(AV.mp a b).one=true:=(rfl)
theorem x4x:(AV.nilmap).cells=[(AV.nilmap)]:=(rfl)
theorem j1z:(AV.nilmap).def? =true:=(rfl)
theorem x2d {cs:List AV}:z9e (AV.nilmap) cs=cs.getD 0 .undef:=(rfl)
theorem j5j {cs:List AV}:(AV.agg cs).cells=cs:=(rfl)
theorem k8t {cs:List AV}:(AV.agg cs).def? =true:=(rfl)
theorem j2a {xs cs:List AV}:z9e (.agg xs) cs= .agg cs:=(rfl)
attribute [go_sem] q7z j5e x7j x0w x0x x9l x2b q8a j5f k8q j5g z2t v6k v6l j5h k1c v6m j5i k8r k8s x4w j1y x2c k1d v6n v6o x4x j1z x2d j5j k8t j2a
theorem x4y {f:List Nat×List Nat}:Md.plain.add f= .plain:=(rfl)
theorem k1e {N:Nat} {ops:List AOper} {ps:List (Nat×Nat)} {fs:List (List Nat×List Nat)} {f:List Nat×List Nat}:(Md.draw N ops ps fs).add f= .draw N ops ps (fs++[f]):=(rfl)
attribute [go_sem] x4y k1e k7t k7u q4r x4o j1o x4p j4n x7e x0t x0u x4q k7v k0p v5m k0q q7u k7y k7w v5n k7x k0r v5o k7z w6t j4v k8g k4p v5t k8h w6w k8i v5u k8j j1s j4w v5v v5w x7h x7i k0x j1t j4x w6x k0y j4y z0b cond_true cond_false k4r x9k z2m z6o k8o j1x k8p k1b j5d k0t j4q List.map_cons List.map_nil Option.map_some Option.map_none Option.bind_some Option.bind_none if_true if_false j1u j1v j4z j5a j5b j1w k0z j5c k8k k1a k8l k8m k8n k4q v5x v5y v5z v6a v6b v6c v6d v6e v6f v6g v6h v6i z8n
end
end Go.Proofs.YtmkblnlafljljaaGreatDoor.Am
