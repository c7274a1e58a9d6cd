/- The functions of this program that loops go over: slices Walking code of the abstract machine: what is left to do is data, so that rewriting never looks into it Walking code of the abstract machine: c -/
import Derived.RangeFuncCalls
import Derived.Maps.RangeWalk
import Derived.IntWalk
import Derived.LoopIn
import Derived.Attr
import Derived.Test.YtahdahokpjigiaaGreatDoorProg
import Derived.Test.YtahdahokpjigiaaGreatDoorM08
open Nat renaming reduceBEq → z0,reduceAdd → z1,reduceLeDiff → z2,reduceSub → z3
set_option linter.all false
namespace Go.Proofs.YtahdahokpjigiaaGreatDoor
open Go Go.RowKit
namespace Am
set_option maxRecDepth 100000 in
set_option maxHeartbeats 1000000 in
theorem x6u (F:Fence) (m:Nat) (hF:F.fn 325) (hro:F.round=none) (hm:1≤m) (l b n c:Nat) (A:Option Addr) (J:Nat→World→Prop) (W:World) (hn:n < 2 ^ 48)
  (hcap:∀ i W,J i W→W.cell? ⟨b,0,none⟩=some (.slice A n c))
  (hround:∀ i W,i < n→J (i + 1) W→∃ bA oA vx,A=some ⟨bA,oA,none⟩∧n≤c∧W.cell? ⟨bA,oA + i,none⟩=some vx∧YieldAt F (m - 1) Tryz.prog l #[.int .i64 i,vx] W fun e W'=>e= .returned (.bool true)∧J i W')
  (h0:J n W):CallsIn F m Tryz.prog 325 #[.func (.yield l) #[] #[], .pointer (some ⟨b,0,none⟩)] W fun e W'=>(∃ v,e= .returned v)∧J 0 W':=by
 have hc:=hcap _ _ h0
 refine callsIn_of_wp Tryz.func325 rfl hF ?_ hro
 simp only[Tryz.ntmps325,List.size_toArray,List.length_cons,List.length_nil,z1,z3,Array.replicate_succ,Array.replicate_zero,List.push_toArray,List.append_toArray,List.nil_append,List.cons_append]
 have hw1:IntKind.i64.wrap ((n:Int) - 1)=(n:Int) - 1:=IntWalk.i64_in _ (by omega)
 gi_wp2
 gi_loopw [3] (fun v wr=>∃ k:Nat,k≤n∧v= .int .i64 ((k:Int) - 1)∧J k wr) (fun v _=>(intOf v + 1).toNat)
 case atStart=>exact⟨n,Nat.le_refl _,rfl,h0⟩
 case round=>
  obtain⟨k,hk,rfl,hJ⟩:=hrel
  cases k with
  | zero=>
    gi_wp2
    go_end0
    exact⟨⟨_,rfl⟩,hJ⟩
  | succ i=>
    have he:(((i + 1:Nat):Int) - 1)=(i:Int):=by omega
    rw[he]
    have hw2:IntKind.i64.wrap ((i:Int) - 1)=(i:Int) - 1:=IntWalk.i64_in _ (by omega)
    obtain⟨bA,oA,vx,rfl,hnc,hcell,fn,tmps,assign,body,hy,hR⟩:=hround i _ (by omega) hJ
    have hc2:=hcap _ _ hJ
    have hlt:(i:Int) < (n:Int):=by omega
    clear he hround
    gi_wp2
    refine hR.mono ?_
    rintro e W3 ⟨rfl,hJ3⟩
    gi_wp2
    go_roundw
    case rel=>exact⟨i,by omega,rfl,hJ3⟩
    case measure=>simp[intOf]
theorem j8r:j8h Tryz.prog 325:=fun q l b n c A J W hn hcap _ hround h0=>
 x6u (q6s none) (q + 1) trivial rfl (Nat.le_add_left 1 q) l b n c A J W hn hcap hround h0
theorem j8s {G:Ghost} {I:Imm} {w:World} {x:AV} {cx:Value} (hr:(z7c x).isSome=true) (hx:VR G I x cx) (himm:∀ b o v,I b o=some v→w.cell? ⟨b,o,none⟩=some v):CallRes Tryz.prog 282 #[cx] w fun cv w'=>∃ I',ILe I I'∧VR G I' (.bwd 325 x) cv∧(∀ (b:Nat) (y:Obj),w.heap[b]? =some y→w'.heap[b]? =some y)∧w'.os=w.os∧w'.tape=w.tape∧w'.output=w.output∧w.heap.size≤w'.heap.size∧
   ∀ b o v,I' b o=some v→I b o=some v∨(w.heap.size≤b∧w'.cell? ⟨b,o,none⟩=some v):=by
 have hlo:∀ b o v,I b o=some v→b < w.heap.size:=fun b o v hv=>by
  have hc:=himm b o v hv
  unfold World.cell? at hc
  simp only at hc
  apply Nat.lt_of_not_le
  intro hle
  rw[Array.getElem?_eq_none hle] at hc
  simp at hc
 obtain⟨A,n,c,rfl⟩:∃ A n c,cx= .slice A n c:=by
  cases x <;> simp[z7c] at hr
  case sl xs t=>
   simp only[VR] at hx
   obtain⟨A,n',c,rfl,_⟩:=hx
   exact⟨A,n',c,rfl⟩
  case ob s g off l=>
   simp only[VR] at hx
   obtain⟨i,A,c,_,_,rfl,_⟩:=hx
   exact⟨A,_,c,rfl⟩
 intro o a next Q hn
 rw[z5x Tryz.func282 rfl (by decide),Oper.upon_enter]
 have hc:Calls Tryz.prog 282 #[.slice A n c] w fun e w'=>e= .returned (.func (.func 325) #[] #[.pointer (some ⟨w.heap.size,0,none⟩)])∧w'=w.alloc (.cells #[.slice A n c] 22):=by
  go_enter Tryz.func282,Tryz.ntmps282
  go_wp2
  go_ret
  exact⟨rfl,rfl⟩
 refine hc.mono ?_
 rintro e w' ⟨rfl,rfl⟩
 refine hn _ _ ⟨fun b o=>if b=w.heap.size∧o=0 then some (.slice A n c) else I b o,fun b o v hv=> ?_, ?_,fun b y hy=> ?_,rfl,rfl,rfl,by simp,fun b o v hv=> ?_⟩
 ·have:=hlo b o v hv
  show (if b=w.heap.size∧o=0 then some (Value.slice A n c) else I b o)=some v
  rw[if_neg (by omega)]
  exact hv
 ·simp only[VR]
  refine⟨w.heap.size, .slice A n c,rfl,by simp,VR.mono (GLe.refl _) (fun b o v hv=> ?_) hx⟩
  have:=hlo b o v hv
  show (if b=w.heap.size∧o=0 then some (Value.slice A n c) else I b o)=some v
  rw[if_neg (by omega)]
  exact hv
 ·rw[RowKit.Below.heap_alloc _ _ _ (Array.getElem?_eq_some_iff.1 hy).1]
  exact hy
 ·replace hv:(if b=w.heap.size∧o=0 then some (Value.slice A n c) else I b o)=some v:=hv
  split at hv
  ·rename_i hbo
   obtain⟨rfl,rfl⟩:=hbo
   simp only[Option.some.injEq] at hv
   subst hv
   refine .inr ⟨Nat.le_refl _, ?_⟩
   unfold World.cell?
   simp only[World.alloc_heap_new]
   rfl
  ·exact .inl hv
end Am
end Go.Proofs.YtahdahokpjigiaaGreatDoor
namespace Go.Proofs.YtahdahokpjigiaaGreatDoor.Am
open Go
set_option maxRecDepth 100000
section
abbrev Run:=Nat→ACode→St→Option (AEx×St)
def v3a (R R':Run):Prop:=∀ b c s r,R b c s=some r→R' b c s=some r
def x2d (C C':Caller):Prop:=∀ f asx h c r,C f asx h c=some r→C' f asx h c=some r
theorem q1d {R R':Run} (hR:v3a R R') {Γ:AProg}:x2d (z0k R Γ) (z0k R' Γ):=by
 intro f args h clk x hc
 unfold z0k at hc⊢
 split at hc
 ·exact hc
 ·split at hc
  ·cases hc
  ·rename_i af haf
   split at hc
   ·cases hc
   ·rename_i asx has
    dsimp only at hc⊢
    generalize hE:R h.length af.body ⟨q0b asx,maskFrom (reach h (h.length + 1) [] (idsL asx)) 0 (freezeAll h (z0s af.byref 0 args))++List.replicate af.nslots .dead,clk⟩=E at hc
    cases E with
    | none=>cases hc
    | some r=>
      rw[hR _ _ _ _ hE]
      exact hc
theorem x2e {C C':Caller} (hC:x2d C C') {base g:Nat} {o:AOper} {s r:St} (h:stepA C base g o s=some r):stepA C' base g o s=some r:=by
 obtain⟨dst,op,guard⟩:=o
 unfold stepA at h⊢
 split at h
 ·rename_i hw
  simp only at h
  cases op
  case call f args=>
   simp only at h⊢
   split at h
   ·rename_i v h' c hc
    rw[hC _ _ _ _ _ hc]
    exact h
   ·cases h
  case callv x args=>
   simp only at h⊢
   split at h
   ·split at h
    ·rename_i v h' c hc
     rw[hC _ _ _ _ _ hc]
     exact h
    ·cases h
   ·cases h
  all_goals exact h
 ·rename_i hw
  exact h
 ·cases h
theorem q8w {C C':Caller} (hC:x2d C C') {base:Nat}:∀ {os:List AOper} {g:Nat} {s r:St},z8n C base g os s=some r→z8n C' base g os s=some r
 | [],_,_,_,h=>h
 | o::os,g,s,r,h=>by
   simp only[z8n] at h⊢
   split at h
   ·rename_i s1 h1
    rw[x2e hC h1]
    exact q8w hC h
   ·cases h
theorem q1t {C C':Caller} (hC:x2d C C') {Γ:AProg} {base:Nat}:∀ {os:List AOper} {g:Nat} {s:St} {r},z3g C Γ base g os s=some r→z3g C' Γ base g os s=some r
 | [],_,_,_,h=>h
 | o::os,g,s,r,h=>by
   simp only[z3g] at h⊢
   split at h
   ·rename_i s1 h1
    rw[x2e hC h1]
    simp only[Option.map_eq_some_iff] at h⊢
    obtain⟨a,h2,h3⟩:=h
    exact⟨a,q1t hC h2,h3⟩
   ·cases h
theorem x9m {C C':Caller} (hC:x2d C C') {Γ:AProg} {base n:Nat} {ops:List AOper} {ps:List (Nat×Nat)} {s r:St} (h:region C Γ base n ops ps s=some r):region C' Γ base n ops ps s=some r:=by
 unfold region at h⊢
 cases ps with
 | nil=>exact q8w hC h
 | cons p ps=>
   simp only at h⊢
   split at h
   ·rename_i s1 fs h1
    rw[q1t hC h1]
    exact h
   ·cases h
theorem q3q {R R':St→Option (AEx×St)} (hR:∀ s r,R s=some r→R' s=some r) {v:AV} {ts:Tmps} {p q:Nat}:∀ {n:Nat} {m r},q1n R v ts p q n m=some r→q1n R' v ts p q n m=some r
 | 0,_,_,h=>h
 | n + 1,m,r,h=>by
   simp only[q1n] at h⊢
   split at h
   ·rename_i x hx
    split at h
    ·rename_i s hs
     rw[hR _ _ hs]
     exact q3q hR h
    ·cases h
   ·cases h
theorem j8t {Γ:AProg}:∀ k,v3a (z4a Γ k) (z4a Γ (k + 1)):=by
 intro k
 induction k with
 | zero=>intro b c s r h;cases h
 | succ k ih=>
   intro b c s r h
   cases c with
   | skip=>exact h
   | exit i=>exact h
   | ret=>exact h
   | bad=>exact h
   | region n ops ps=>
     rw[z4a] at h⊢
     simp only[Option.map_eq_some_iff] at h⊢
     obtain⟨a,h1,h2⟩:=h
     exact⟨a,x9m (q1d ih) h1,h2⟩
   | seq x y=>
     rw[z4a] at h⊢
     split at h
     ·rename_i s1 h1
      rw[ih _ _ _ _ h1]
      exact ih _ _ _ _ h
     ·rename_i hn
      cases hx:z4a Γ k b x s with
      | none=>rw[hx] at h;cases h
      | some q=>
        rw[ih _ _ _ _ hx]
        rw[hx] at h
        split
        ·rename_i s1 e1
         injection e1 with e1
         exact absurd (e1 ▸ hx) (hn s1)
        ·exact h
   | cond x y z=>
     rw[z4a] at h⊢
     split at h
     ·exact ih _ _ _ _ h
     ·cases h
   | block i x=>
     rw[z4a] at h⊢
     cases hx:z4a Γ k b x s with
     | none=>rw[hx] at h;cases h
     | some q=>
       rw[ih _ _ _ _ hx]
       rw[hx] at h
       exact h
   | loop x=>
     rw[z4a] at h⊢
     split at h
     ·rename_i s1 h1
      rw[ih _ _ _ _ h1]
      exact ih _ _ _ _ h
     ·rename_i hn
      cases hx:z4a Γ k b x s with
      | none=>rw[hx] at h;cases h
      | some q=>
        rw[ih _ _ _ _ hx]
        rw[hx] at h
        split
        ·rename_i s1 e1
         injection e1 with e1
         exact absurd (e1 ▸ hx) (hn s1)
        ·exact h
   | rangeB x p q a y=>
     rw[z4a] at h⊢
     split at h
     ·split at h
      ·split at h
       ·rename_i f v _ n hn hi
        simp only[hi,if_true]
        simp only[Option.map_eq_some_iff] at h⊢
        obtain⟨m,h1,h2⟩:=h
        refine⟨m,q3q ?_ h1,h2⟩
        intro s r hr
        split at hr
        ·rename_i s1 hs
         rw[ih _ _ _ _ hs]
         exact ih _ _ _ _ hr
        ·rename_i hn2
         cases hx:z4a Γ k b a s with
         | none=>rw[hx] at hr;cases hr
         | some q=>
           rw[ih _ _ _ _ hx]
           rw[hx] at hr
           split
           ·rename_i s1 e1
            injection e1 with e1
            exact absurd (e1 ▸ hx) (hn2 s1)
           ·exact hr
       ·cases h
      ·cases h
     ·cases h
theorem z9w {Γ:AProg} {k k':Nat} (h:k≤k'):v3a (z4a Γ k) (z4a Γ k'):=by
 induction h with
 | refl=>exact fun _ _ _ _ h=>h
 | step _ ih=>exact fun _ _ _ _ h=>j8t _ _ _ _ _ (ih _ _ _ _ h)
theorem x3w {Γ:AProg} {k k':Nat} (h:k≤k'):x2d (z5b Γ k) (z5b Γ k'):=q1d (z9w h)
theorem z8b {Γ:AProg} {k k' b:Nat} {c:ACode} {s:St} {r r'} (h:z4a Γ k b c s=some r) (h':z4a Γ k' b c s=some r'):r=r':=by
 have h1:=z9w (Nat.le_max_left k k') _ _ _ _ h
 have h2:=z9w (Nat.le_max_right k k') _ _ _ _ h'
 rw[h1] at h2
 injection h2
theorem q8x {Γ:AProg} {k k' f:Nat} {asx:List AV} {h:List AObj} {c:Nat} {r r'} (h1:z5b Γ k f asx h c=some r) (h2:z5b Γ k' f asx h c=some r'):r=r':=by
 have h1:=x3w (Nat.le_max_left k k') _ _ _ _ _ h1
 have h2:=x3w (Nat.le_max_right k k') _ _ _ _ _ h2
 rw[h1] at h2
 injection h2
abbrev Post:=AEx→St→Prop
inductive Kf where
 | seq (b:ACode)
 | block (id:Nat)
def Kf.next:Kf→AEx→ACode
 | .seq b, .norm=>b
 | .seq _, .exit i=> .exit i
 | .seq _, .ret=> .ret
 | .block _, .norm=> .skip
 | .block i, .exit j=>if j=i then .skip else .exit j
 | .block _, .ret=> .ret
def Kf.on:Kf→ACode→ACode
 | .seq b,a=> .seq a b
 | .block i,a=> .block i a
section
variable (Γ:AProg)
def W (base:Nat) (c:ACode) (s:St) (Q:Post):Prop:=∃ k e s',z4a Γ k base c s=some (e,s')∧Q e s'
def WC (f:Nat) (args:List AV) (h:List AObj) (clk:Nat) (Q:AV→List AObj→Nat→Prop):Prop:=∃ k v h' c,z5b Γ k f args h clk=some (v,h',c)∧Q v h' c
def K (base:Nat) (c:ACode):List Kf→St→Post→Prop
 | [],s,Q=>W Γ base c s Q
 | f::ks,s,Q=>W Γ base c s fun e s'=>K base (f.next e) ks s' Q
end
section
variable {Γ:AProg} {base:Nat}
theorem q6x {s:St} {Q:Post}:W Γ base .skip s Q=Q .norm s:=by
 refine propext ⟨?_,fun h=>⟨1,_,_,rfl,h⟩⟩
 rintro ⟨k,e,s',h,hq⟩
 obtain⟨rfl⟩:=z8b (k':=1) h rfl
 exact hq
theorem j2h {i:Nat} {s:St} {Q:Post}:W Γ base (.exit i) s Q=Q (.exit i) s:=by
 refine propext ⟨?_,fun h=>⟨1,_,_,rfl,h⟩⟩
 rintro ⟨k,e,s',h,hq⟩
 obtain⟨rfl⟩:=z8b (k':=1) h rfl
 exact hq
theorem k4k {s:St} {Q:Post}:W Γ base .ret s Q=Q .ret s:=by
 refine propext ⟨?_,fun h=>⟨1,_,_,rfl,h⟩⟩
 rintro ⟨k,e,s',h,hq⟩
 obtain⟨rfl⟩:=z8b (k':=1) h rfl
 exact hq
theorem u2t {f:Kf} {c:ACode} {s:St} {Q:Post}:W Γ base (f.on c) s Q=W Γ base c s fun e s'=>W Γ base (f.next e) s' Q:=by
 apply propext
 constructor
 ·rintro ⟨k,e,s',h,hq⟩
  cases k with
  | zero=>cases h
  | succ k=>
    cases f with
    | seq b=>
      rw[Kf.on,z4a] at h
      split at h
      ·rename_i s1 h1
       exact⟨k, .norm,s1,h1,k,e,s',h,hq⟩
      ·rename_i hn
       cases e with
       | norm=>exact absurd h (hn s')
       | exit i=>exact⟨k,_,_,h,1,_,_,rfl,hq⟩
       | ret=>exact⟨k,_,_,h,1,_,_,rfl,hq⟩
    | block i=>
      rw[Kf.on,z4a] at h
      split at h
      ·rename_i j s1 h1
       split at h
       ·rename_i hj
        injection h with h
        injection h with e1 e2
        subst e1;subst e2
        exact⟨k,_,_,h1,by simp only[Kf.next,if_pos hj];exact⟨1,_,_,rfl,hq⟩⟩
       ·rename_i hj
        injection h with h
        injection h with e1 e2
        subst e1;subst e2
        exact⟨k,_,_,h1,by simp only[Kf.next,if_neg hj];exact⟨1,_,_,rfl,hq⟩⟩
      ·rename_i hn
       cases e with
       | norm=>exact⟨k,_,_,h,1,_,_,rfl,hq⟩
       | exit j=>exact absurd h (hn j s')
       | ret=>exact⟨k,_,_,h,1,_,_,rfl,hq⟩
 ·rintro ⟨k,e,s1,h1,k',e',s',h2,hq⟩
  have h1':=z9w (Nat.le_max_left k k') _ _ _ _ h1
  have h2':=z9w (Nat.le_max_right k k') _ _ _ _ h2
  refine⟨max k k' + 1,e',s', ?_,hq⟩
  cases f with
  | seq b=>
    rw[Kf.on,z4a]
    simp only[h1']
    cases e with
    | norm=>exact h2'
    | exit i=>exact (congrArg some (z8b (k':=1) h2 rfl)).symm
    | ret=>exact (congrArg some (z8b (k':=1) h2 rfl)).symm
  | block i=>
    rw[Kf.on,z4a]
    simp only[h1']
    cases e with
    | norm=>exact (congrArg some (z8b (k':=1) h2 rfl)).symm
    | exit j=>
      simp only[Kf.next] at h2
      by_cases hj:j=i
      ·simp only[if_pos hj] at h2⊢
       exact (congrArg some (z8b (k':=1) h2 rfl)).symm
      ·simp only[if_neg hj] at h2⊢
       exact (congrArg some (z8b (k':=1) h2 rfl)).symm
    | ret=>exact (congrArg some (z8b (k':=1) h2 rfl)).symm
variable {ks:List Kf} {s s':St} {Q:Post} {c c':ACode}
theorem w0j (h:∀ Q,W Γ base c s Q=W Γ base c' s' Q):K Γ base c ks s Q=K Γ base c' ks s' Q:=by
 cases ks <;> exact h _
theorem y9b {f:Kf}:K Γ base (f.on c) ks s Q=K Γ base c (f::ks) s Q:=by
 cases ks <;> exact u2t
theorem v3b {a b:ACode}:K Γ base (.seq a b) ks s Q=K Γ base a (.seq b::ks) s Q:=y9b (f:= .seq b)
theorem v3c {i:Nat} {a:ACode}:K Γ base (.block i a) ks s Q=K Γ base a (.block i::ks) s Q:=y9b (f:= .block i)
theorem q5u {b:ACode}:K Γ base .skip (.seq b::ks) s Q=K Γ base b ks s Q:=q6x
theorem x6v {i:Nat}:K Γ base .skip (.block i::ks) s Q=K Γ base .skip ks s Q:=q6x
theorem j5o {b:ACode} {i:Nat}:K Γ base (.exit i) (.seq b::ks) s Q=K Γ base (.exit i) ks s Q:=j2h
theorem x6w {i j:Nat}:K Γ base (.exit j) (.block i::ks) s Q=K Γ base (if j=i then .skip else .exit j) ks s Q:=j2h
theorem j8u {b:ACode}:K Γ base .ret (.seq b::ks) s Q=K Γ base .ret ks s Q:=k4k
theorem x9n {i:Nat}:K Γ base .ret (.block i::ks) s Q=K Γ base .ret ks s Q:=k4k
theorem x2f:K Γ base .skip [] s Q=Q .norm s:=q6x
theorem x2g {i:Nat}:K Γ base (.exit i) [] s Q=Q (.exit i) s:=j2h
theorem x6x:K Γ base .ret [] s Q=Q .ret s:=k4k
def BK (Γ:AProg) (base:Nat) (x:AV) (a b:ACode) (ks:List Kf) (s:St) (Q:Post):Prop:=
 match x with
 | .bool true=>K Γ base a ks s Q
 | .bool false=>K Γ base b ks s Q
 | _=>False
theorem v3d {a b:ACode}:BK Γ base (.bool true) a b ks s Q=K Γ base a ks s Q:=(rfl)
theorem k4l {a b:ACode}:BK Γ base (.bool false) a b ks s Q=K Γ base b ks s Q:=(rfl)
theorem z8c {x:Bool} {a b:ACode} (ha:x=true→K Γ base a ks s Q) (hb:x=false→K Γ base b ks s Q):BK Γ base (.bool x) a b ks s Q:=by
 cases x
 ·exact hb rfl
 ·exact ha rfl
theorem w0k {x:AOpd} {a b:ACode}:W Γ base (.cond x a b) s Q=match x.ev s.ts with
  | .bool true=>W Γ base a s Q
  | .bool false=>W Γ base b s Q
  | _=>False:=by
 apply propext
 have key:∀ t,x.ev s.ts= .bool t→(W Γ base (.cond x a b) s Q↔W Γ base (if t then a else b) s Q):=by
  intro t ht
  constructor
  ·rintro ⟨k,e,s',h,hq⟩
   cases k with
   | zero=>cases h
   | succ k=>
     rw[z4a] at h
     simp only[ht] at h
     exact⟨k,e,s',h,hq⟩
  ·rintro ⟨k,e,s',h,hq⟩
   exact⟨k + 1,e,s',by rw[z4a];simp only[ht];exact h,hq⟩
 split
 ·rename_i h;exact key true h
 ·rename_i h;exact key false h
 ·rename_i h1 h2
  refine⟨?_,False.elim⟩
  rintro ⟨k,e,s',h,hq⟩
  cases k with
  | zero=>cases h
  | succ k=>
    rw[z4a] at h
    split at h
    ·rename_i t ht
     cases t
     ·exact h2 ht
     ·exact h1 ht
    ·cases h
theorem w0l {x:AOpd} {a b:ACode}:K Γ base (.cond x a b) ks s Q=BK Γ base (x.ev s.ts) a b ks s Q:=by
 unfold BK
 cases ks <;> · unfold K;rw[w0k]
def q8y (Γ:AProg) (base:Nat) (s:St) (o:AOper) (h':List AObj):List Nat×List Nat:=
 if z5t s.ts o.guard=some true then foot Γ s.h h' base s.ts o.op else ([],[])
def z1f (N:Nat) (ops:List AOper) (fs:List (List Nat×List Nat)) (ps:List (Nat×Nat)):Bool:=
 ps.all fun p=>apart (fs.getD p.1 ([],[])) (fs.getD p.2 ([],[])) && (!(z1d ops p.1 || z1d ops p.2) || ((z1h fs p.1++z1h fs p.2).all (· < N)))
inductive Md where
 | plain
 | draw (N:Nat) (ops:List AOper) (ps:List (Nat×Nat)) (fs:List (List Nat×List Nat))
def Md.add (f:List Nat×List Nat):Md→Md
 | .plain=> .plain
 | .draw N ops ps fs=> .draw N ops ps (fs++[f])
def Md.adds:Md→List (List Nat×List Nat)→Md
 | m,[]=>m
 | m,f::fs=>(m.add f).adds fs
def Md.ok:Md→Bool
 | .plain=>true
 | .draw N ops ps fs=>z1f N ops fs ps
def O (Γ:AProg) (base:Nat) (m:Md) (g:Nat) (os:List AOper) (s:St) (ks:List Kf) (Q:Post):Prop:=
 ∃ k s' fs,z3g (z0k (z4a Γ k) Γ) Γ base g os s=some (s',fs)∧(m.adds fs).ok=true∧K Γ base .skip ks s' Q
variable {m:Md} {g:Nat} {os:List AOper}
theorem q8z:O Γ base .plain g [] s ks Q=K Γ base .skip ks s Q:=by
 refine propext ⟨?_,fun h=>⟨0,s,[],rfl,rfl,h⟩⟩
 rintro ⟨k,s',fs,h,_,hq⟩
 simp only[z3g,Option.some.injEq,Prod.mk.injEq] at h
 obtain⟨rfl,rfl⟩:=h
 exact hq
theorem j5p {N:Nat} {ops:List AOper} {ps:List (Nat×Nat)} {fs:List (List Nat×List Nat)}:O Γ base (.draw N ops ps fs) g [] s ks Q=(z1f N ops fs ps=true∧K Γ base .skip ks s Q):=by
 refine propext ⟨?_,fun h=>⟨0,s,[],rfl,h.1,h.2⟩⟩
 rintro ⟨k,s',fs',h,h2,hq⟩
 simp only[z3g,Option.some.injEq,Prod.mk.injEq] at h
 obtain⟨rfl,rfl⟩:=h
 exact⟨h2,hq⟩
theorem q3r {C:Caller}:∀ {os:List AOper} {g:Nat} {s:St},(z3g C Γ base g os s).map (·.1)=z8n C base g os s
 | [],_,_=>rfl
 | o::os,g,s=>by
   simp only[z3g,z8n]
   split
   ·rw[←q3r]
    simp only[Option.map_map]
    rfl
   ·rfl
theorem x2h:∀ {fs:List (List Nat×List Nat)},(Md.plain.adds fs)= .plain
 | []=>rfl
 | _::fs=>x2h (fs:=fs)
theorem q4q {N:Nat} {ops:List AOper} {ps:List (Nat×Nat)}:∀ {fs gs:List (List Nat×List Nat)},(Md.draw N ops ps gs).adds fs= .draw N ops ps (gs++fs)
 | [],gs=>by rw[List.append_nil];rfl
 | f::fs,gs=>by
   simp only[Md.adds,Md.add]
   rw[q4q,List.append_assoc]
   rfl
theorem q3b {n:Nat}:W Γ base (.region n os []) s Q=∃ k s',z8n (z0k (z4a Γ k) Γ) base s.clk os ⟨s.ts,s.h,s.clk + n⟩=some s'∧Q .norm s':=by
 apply propext
 constructor
 ·rintro ⟨k,e,s',h,hq⟩
  cases k with
  | zero=>cases h
  | succ k=>
    rw[z4a] at h
    simp only[region,Option.map_eq_some_iff] at h
    obtain⟨a,h1,h2⟩:=h
    simp only[Prod.mk.injEq] at h2
    obtain⟨rfl,rfl⟩:=h2
    exact⟨k,a,h1,hq⟩
 ·rintro ⟨k,s',h,hq⟩
  exact⟨k + 1, .norm,s',by rw[z4a];simp only[region,h,Option.map_some],hq⟩
theorem q4r {n:Nat} {p:Nat×Nat} {ps:List (Nat×Nat)}:W Γ base (.region n os (p::ps)) s Q=∃ k s' fs,z3g (z0k (z4a Γ k) Γ) Γ base s.clk os ⟨s.ts,s.h,s.clk + n⟩=some (s',fs)∧z1f s.h.length os fs (p::ps)=true∧Q .norm s':=by
 apply propext
 constructor
 ·rintro ⟨k,e,s',h,hq⟩
  cases k with
  | zero=>cases h
  | succ k=>
    rw[z4a] at h
    simp only[region,Option.map_eq_some_iff] at h
    obtain⟨a,h1,h2⟩:=h
    simp only[Prod.mk.injEq] at h2
    obtain⟨rfl,rfl⟩:=h2
    split at h1
    ·rename_i s1 fs h3
     split at h1
     ·rename_i h4
      injection h1 with h1
      subst h1
      exact⟨k,s1,fs,h3,h4,hq⟩
     ·cases h1
    ·cases h1
 ·rintro ⟨k,s',fs,h,h2,hq⟩
  refine⟨k + 1, .norm,s', ?_,hq⟩
  unfold z1f at h2
  rw[z4a]
  simp only[region,h]
  rw[if_pos h2]
  rfl
theorem k4m {n:Nat}:K Γ base (.region n os []) ks s Q=O Γ base .plain s.clk os ⟨s.ts,s.h,s.clk + n⟩ ks Q:=by
 have key:∀ R:St→Prop,(∃ k s',z8n (z0k (z4a Γ k) Γ) base s.clk os ⟨s.ts,s.h,s.clk + n⟩=some s'∧R s')=∃ k s' fs,z3g (z0k (z4a Γ k) Γ) Γ base s.clk os ⟨s.ts,s.h,s.clk + n⟩=some (s',fs)∧(Md.plain.adds fs).ok=true∧R s':=by
  intro R
  apply propext
  constructor
  ·rintro ⟨k,s',h,hr⟩
   rw[←q3r (Γ:=Γ),Option.map_eq_some_iff] at h
   obtain⟨⟨s1,fs⟩,h1,rfl⟩:=h
   exact⟨k,s1,fs,h1,by rw[x2h];rfl,hr⟩
  ·rintro ⟨k,s',fs,h,_,hr⟩
   exact⟨k,s',by rw[←q3r (Γ:=Γ),h];rfl,hr⟩
 unfold O
 cases ks with
 | nil=>
   unfold K
   rw[q3b,key]
   simp only[q6x]
 | cons f ks=>
   unfold K
   rw[q3b,key]
   simp only[q6x]
theorem z1i {n:Nat} {p:Nat×Nat} {ps:List (Nat×Nat)}:K Γ base (.region n os (p::ps)) ks s Q=O Γ base (.draw s.h.length os (p::ps) []) s.clk os ⟨s.ts,s.h,s.clk + n⟩ ks Q:=by
 unfold O
 cases ks with
 | nil=>
   unfold K
   rw[q4r]
   simp only[q6x,q4q,List.nil_append,Md.ok]
 | cons f ks=>
   unfold K
   rw[q4r]
   simp only[q6x,q4q,List.nil_append,Md.ok]
theorem k9j {o:AOper} {s1:St} (h:∀ k,stepA (z0k (z4a Γ k) Γ) base g o s=some s1):O Γ base m g (o::os) s ks Q=O Γ base (m.add (q8y Γ base s o s1.h)) (g + 1) os s1 ks Q:=by
 unfold O
 apply propext
 constructor
 ·rintro ⟨k,s',fs,h1,h2,h3⟩
  simp only[z3g,h k,Option.map_eq_some_iff] at h1
  obtain⟨⟨s2,fs2⟩,h4,h5⟩:=h1
  simp only[Prod.mk.injEq] at h5
  obtain⟨rfl,rfl⟩:=h5
  exact⟨k,s2,fs2,h4,h2,h3⟩
 ·rintro ⟨k,s',fs,h1,h2,h3⟩
  exact⟨k,s',q8y Γ base s o s1.h::fs,by simp only[z3g,h k,h1,Option.map_some];rfl,h2,h3⟩
theorem x9o {o:AOper} (h:∀ k,stepA (z0k (z4a Γ k) Γ) base g o s=none):O Γ base m g (o::os) s ks Q=False:=by
 unfold O
 refine propext ⟨?_,False.elim⟩
 rintro ⟨k,s',fs,h1,_⟩
 simp only[z3g,h k] at h1
 cases h1
variable {ts:Tmps} {h:List AObj} {clk:Nat} {dst:Option Nat}
def PO (Γ:AProg) (base:Nat) (x:Option (AV×List AObj)) (f:List Nat×List Nat) (m:Md) (dst:Option Nat) (g:Nat) (os:List AOper) (ts:Tmps) (clk:Nat) (ks:List Kf) (Q:Post):Prop:=
 match x with
 | some (v,h')=>O Γ base (m.add f) (g + 1) os ⟨z9f ts dst v,h',clk⟩ ks Q
 | none=>False
theorem z6v {op:AOp} (hop:op.isCall=false):O Γ base m g (⟨dst,op,none⟩::os) ⟨ts,h,clk⟩ ks Q=PO Γ base (prim h base g ts op) (foot Γ [] [] base ts op) m dst g os ts clk ks Q:=by
 have hf:∀ h',q8y Γ base ⟨ts,h,clk⟩ ⟨dst,op,none⟩ h'=foot Γ [] [] base ts op:=by
  intro h'
  cases op <;> first | rfl | cases hop
 have hs:∀ k,stepA (z0k (z4a Γ k) Γ) base g ⟨dst,op,none⟩ ⟨ts,h,clk⟩=match prim h base g ts op with
   | some (v,h')=>some ⟨z9f ts dst v,h',clk⟩
   | none=>none:=by
  intro k
  cases op <;> first | rfl | cases hop
 unfold PO
 split
 ·rename_i v h' hp
  rw[k9j (s1:=⟨z9f ts dst v,h',clk⟩) (fun k=>by rw[hs k,hp]),hf]
 ·rename_i hp
  exact x9o (fun k=>by rw[hs k,hp])
def gW (x:AV) (b:Bool):Option Bool:=
 match x with
 | .bool y=>some (y==b)
 | .tup []=>some false
 | _=>none
theorem v3e {y b:Bool}:gW (.bool y) b=some (y==b):=(rfl)
theorem w0m {b:Bool}:gW (.tup []) b=some false:=(rfl)
def GO (Γ:AProg) (base:Nat) (w:Option Bool) (op:AOp) (m:Md) (dst:Option Nat) (g:Nat) (os:List AOper) (s:St) (ks:List Kf) (Q:Post):Prop:=
 match w with
 | some true=>O Γ base m g (⟨dst,op,none⟩::os) s ks Q
 | some false=>O Γ base (m.add ([],[])) (g + 1) os ⟨z9f s.ts dst (.tup []),s.h,s.clk⟩ ks Q
 | none=>False
theorem v3f {op:AOp}:GO Γ base (some true) op m dst g os s ks Q=O Γ base m g (⟨dst,op,none⟩::os) s ks Q:=(rfl)
theorem k4n {op:AOp}:GO Γ base (some false) op m dst g os ⟨ts,h,clk⟩ ks Q=O Γ base (m.add ([],[])) (g + 1) os ⟨z9f ts dst (.tup []),h,clk⟩ ks Q:=(rfl)
theorem v3g {op:AOp} {t:Nat} {b:Bool}:O Γ base m g (⟨dst,op,some (t,b)⟩::os) ⟨ts,h,clk⟩ ks Q=GO Γ base (gW (ts t) b) op m dst g os ⟨ts,h,clk⟩ ks Q:=by
 have hw:z5t ts (some (t,b))=gW (ts t) b:=rfl
 unfold GO
 split
 ·rename_i h1
  rw[h1] at hw
  unfold O
  have:∀ k,z3g (z0k (z4a Γ k) Γ) Γ base g (⟨dst,op,some (t,b)⟩::os) ⟨ts,h,clk⟩=z3g (z0k (z4a Γ k) Γ) Γ base g (⟨dst,op,none⟩::os) ⟨ts,h,clk⟩:=by
   intro k
   have h2:z5t ts none=some true:=rfl
   simp only[z3g,stepA,hw,h2]
  simp only[this]
 ·rename_i h1
  rw[h1] at hw
  rw[k9j (s1:=⟨z9f ts dst (.tup []),h,clk⟩) (fun k=>by simp only[stepA,hw])]
  simp only[q8y,hw,Option.some.injEq,Bool.false_eq_true,if_false]
 ·rename_i h1
  rw[h1] at hw
  exact x9o (fun k=>by simp only[stepA,hw])
def CK (Γ:AProg) (base f:Nat) (asx:List AV) (h:List AObj) (clk:Nat) (m:Md) (dst:Option Nat) (g:Nat) (os:List AOper) (ts:Tmps) (ks:List Kf) (Q:Post):Prop:=
 WC Γ f asx h clk fun v h' c=>O Γ base (m.add (z3p (z0v Γ f asx h) h h')) (g + 1) os ⟨z9f ts dst v,h',c⟩ ks Q
theorem j8v {o:AOper} {f:Nat} {asx:List AV} (hs:∀ k,stepA (z0k (z4a Γ k) Γ) base g o ⟨ts,h,clk⟩=match z5b Γ k f asx h clk with
   | some (v,h',c)=>some ⟨z9f ts o.dst v,h',c⟩
   | none=>none) (hf:∀ h',q8y Γ base ⟨ts,h,clk⟩ o h'=z3p (z0v Γ f asx h) h h'):O Γ base m g (o::os) ⟨ts,h,clk⟩ ks Q=CK Γ base f asx h clk m o.dst g os ts ks Q:=by
 unfold CK
 apply propext
 constructor
 ·rintro ⟨k,s',fs,h1,h2,h3⟩
  simp only[z3g,hs k] at h1
  cases hc:z5b Γ k f asx h clk with
  | none=>rw[hc] at h1;cases h1
  | some r=>
    obtain⟨v,h',c⟩:=r
    rw[hc] at h1
    simp only[Option.map_eq_some_iff] at h1
    obtain⟨⟨s2,fs2⟩,h4,h5⟩:=h1
    simp only[Prod.mk.injEq] at h5
    obtain⟨rfl,rfl⟩:=h5
    refine⟨k,v,h',c,hc,k,s2,fs2,h4, ?_,h3⟩
    rw[←hf]
    exact h2
 ·rintro ⟨k,v,h',c,hc,k',s2,fs2,h4,h2,h3⟩
  refine⟨max k k',s2,q8y Γ base ⟨ts,h,clk⟩ o h'::fs2, ?_,by rw[hf];exact h2,h3⟩
  simp only[z3g,hs,x3w (Nat.le_max_left k k') _ _ _ _ _ hc,q1t (q1d (z9w (Nat.le_max_right k k'))) h4,Option.map_some]
  rfl
theorem w0n {f:Nat} {args:List AOpd}:O Γ base m g (⟨dst, .call f args,none⟩::os) ⟨ts,h,clk⟩ ks Q=CK Γ base f (args.map (·.ev ts)) h clk m dst g os ts ks Q:=
 j8v (fun _=>rfl) (fun _=>rfl)
def VK (Γ:AProg) (base:Nat) (x:AV) (asx:List AV) (h:List AObj) (clk:Nat) (m:Md) (dst:Option Nat) (g:Nat) (os:List AOper) (ts:Tmps) (ks:List Kf) (Q:Post):Prop:=
 match x with
 | .fn f cap=>CK Γ base f (asx++cap) h clk m dst g os ts ks Q
 | _=>False
theorem y2g {f:Nat} {cap asx:List AV}:VK Γ base (.fn f cap) asx h clk m dst g os ts ks Q=CK Γ base f (asx++cap) h clk m dst g os ts ks Q:=(rfl)
theorem v3h {x:AOpd} {args:List AOpd}:O Γ base m g (⟨dst, .callv x args,none⟩::os) ⟨ts,h,clk⟩ ks Q=VK Γ base (x.ev ts) (args.map (·.ev ts)) h clk m dst g os ts ks Q:=by
 unfold VK
 split
 ·rename_i f cap hx
  refine j8v (fun k=> ?_) (fun h'=> ?_)
  ·simp only[stepA,z5t,hx]
   rfl
  ·simp only[q8y,z5t,foot,hx,if_true]
 ·rename_i hn
  refine x9o (fun k=> ?_)
  simp only[stepA,z5t]
def Pure (Γ:AProg) (f:Nat) (args:List AV) (v:AV):Prop:=∀ h clk,(∃ k,z5b Γ k f args h clk=some (v,h,clk))∧z0v Γ f args h=[]
theorem z0a {f:Nat} {asx:List AV} {v:AV} (hp:Pure Γ f asx v):CK Γ base f asx h clk m dst g os ts ks Q=O Γ base (m.add ([],[])) (g + 1) os ⟨z9f ts dst v,h,clk⟩ ks Q:=by
 obtain⟨⟨k,hk⟩,hf⟩:=hp h clk
 unfold CK
 apply propext
 constructor
 ·rintro ⟨k',v',h',c,hc,hq⟩
  have:=q8x hk hc
  simp only[Prod.mk.injEq] at this
  obtain⟨rfl,rfl,rfl⟩:=this
  rw[hf] at hq
  exact hq
 ·intro hq
  refine⟨k,v,h,clk,hk, ?_⟩
  rw[hf]
  exact hq
theorem z0y {b:ACode} (I:Nat→St→Prop) (n:Nat) (h0:I n s)
  (hstep:∀ m s (P:Post),I m s→(∀ m' s',m' < m→I m' s'→P .norm s')→(∀ i s',K Γ base (.exit i) ks s' Q→P (.exit i) s')→(∀ s',K Γ base .ret ks s' Q→P .ret s')→K Γ base b [] s P):K Γ base (.loop b) ks s Q:=by
 have key:∀ R:Post,(∀ m s (P:Post),I m s→(∀ m' s',m' < m→I m' s'→P .norm s')→(∀ i s',R (.exit i) s'→P (.exit i) s')→(∀ s',R .ret s'→P .ret s')→W Γ base b s P)→W Γ base (.loop b) s R:=by
  intro R hst
  clear hstep
  induction n using Nat.strongRecOn generalizing s with
  | ind n ih=>
    obtain⟨k,e,s1,h1,h2⟩:=hst n s (fun e s'=>match e with
     | .norm=>∃ m',m' < n∧I m' s'
     | e=>R e s') h0 (fun m' s' hm hi=>⟨m',hm,hi⟩) (fun i s' h=>h) (fun s' h=>h)
    cases e with
    | norm=>
      obtain⟨m',hm,hi⟩:=h2
      obtain⟨k2,e2,s2,h3,h4⟩:=ih m' hm hi
      refine⟨max k k2 + 1,e2,s2, ?_,h4⟩
      rw[z4a]
      simp only[z9w (Nat.le_max_left k k2) _ _ _ _ h1]
      exact z9w (Nat.le_max_right k k2) _ _ _ _ h3
    | exit i=>exact⟨k + 1, .exit i,s1,by rw[z4a];simp only[h1],h2⟩
    | ret=>exact⟨k + 1, .ret,s1,by rw[z4a];simp only[h1],h2⟩
 cases ks with
 | nil=>
   refine key Q fun m s P hi hn he hr=>hstep m s P hi hn (fun i s' h=> ?_) (fun s' h=> ?_)
   ·exact he i s' (by rw[x2g] at h;exact h)
   ·exact hr s' (by rw[x6x] at h;exact h)
 | cons f ks=>
   refine key _ fun m s P hi hn he hr=>hstep m s P hi hn (fun i s' h=> ?_) (fun s' h=> ?_)
   ·refine he i s' ?_
    unfold K at h
    rw[j2h] at h
    exact h
   ·refine hr s' ?_
    unfold K at h
    rw[k4k] at h
    exact h
theorem k4o {x:AOpd} {p q:Nat} {a b:ACode} {f n:Nat} {v:AV} (hx:x.ev s.ts= .bwd f v) (hn:z7c v=some n) (hf:Γ.iters.contains f=true) (J:Nat→List AObj→Nat→Prop)
  (h0:J n s.h s.clk) (hstep:∀ i h c (P:Post),i < n→J (i + 1) h c→(∀ s',J i s'.h s'.clk→P .norm s')→∃ xv,q6n h v i=some xv∧K Γ base a [.seq b] ⟨upd (upd s.ts p (.int .i64 i)) q xv,h,c⟩ P)
  (hQ:∀ h c,J 0 h c→K Γ base .skip ks ⟨s.ts,h,c⟩ Q):K Γ base (.rangeB x p q a b) ks s Q:=by
 have key:∀ i h c,i≤n→J i h c→∃ h' c',J 0 h' c'∧∃ k,q1n (fun s=>match z4a Γ k base a s with
   | some (.norm,s')=>z4a Γ k base b s'
   | r=>r) v s.ts p q i (h,c)=some (h',c'):=by
  intro i
  induction i with
  | zero=>intro h c _ hj;exact⟨h,c,hj,0,rfl⟩
  | succ i ih=>
    intro h c hi hj
    obtain⟨xv,hxv,hw⟩:=hstep i h c (fun e s'=>e= .norm∧J i s'.h s'.clk) (by omega) hj (fun s' h=>⟨rfl,h⟩)
    rw[←v3b] at hw
    obtain⟨k,e,s1,h1,rfl,hj2⟩:=hw
    obtain⟨h',c',h5,k2,h6⟩:=ih s1.h s1.clk (by omega) hj2
    cases k with
    | zero=>cases h1
    | succ k=>
    rw[z4a] at h1
    have hle:∀ {k k':Nat},k≤k'→∀ s r,(match z4a Γ k base a s with
     | some (.norm,s')=>z4a Γ k base b s'
     | r=>r)=some r→(match z4a Γ k' base a s with
     | some (.norm,s')=>z4a Γ k' base b s'
     | r=>r)=some r:=by
     intro k k' hk s r hr
     cases hx:z4a Γ k base a s with
     | none=>rw[hx] at hr;cases hr
     | some q=>
       rw[hx] at hr
       rw[z9w hk _ _ _ _ hx]
       obtain⟨e,s2⟩:=q
       cases e with
       | norm=>exact z9w hk _ _ _ _ hr
       | exit i=>exact hr
       | ret=>exact hr
    refine⟨h',c',h5,max k k2, ?_⟩
    simp only[q1n,hxv]
    rw[hle (Nat.le_max_left k k2) _ _ h1]
    exact q3q (hle (Nat.le_max_right k k2)) h6
 obtain⟨h',c',h1,k,h2⟩:=key n s.h s.clk (Nat.le_refl _) h0
 have:=hQ h' c' h1
 have e1:z4a Γ (k + 1) base (.rangeB x p q a b) s=some (.norm,⟨s.ts,h',c'⟩):=by
  rw[z4a]
  simp only[hx,hn,hf,if_true]
  exact congrArg (Option.map fun m=>(AEx.norm,(⟨s.ts,m.1,m.2⟩:St))) h2
 cases ks with
 | nil=>
   rw[x2f] at this
   exact⟨k + 1,_,_,e1,this⟩
 | cons f ks=>
   unfold K at this
   rw[q6x] at this
   exact⟨k + 1,_,_,e1,this⟩
end
end
section
mutual
def AV.cv:AV→AV
 | .agg cs=> .agg (cvL cs)
 | .tup cs=> .tup (cvL cs)
 | .sl xs _=> .sl xs .no
 | v=>v
def cvL:List AV→List AV
 | []=>[]
 | v::vs=>v.cv::cvL vs
end
mutual
theorem q5v {h:List AObj}:∀ {v:AV},v.obs=[]→conv h v=some v.cv
 | .agg cs,ho=>by
   simp only[conv,AV.cv,q7p (by simpa only[AV.obs] using ho),Option.map_some]
 | .tup cs,ho=>by
   simp only[conv,AV.cv,q7p (by simpa only[AV.obs] using ho),Option.map_some]
 | .ob ..,ho=>by simp[AV.obs] at ho
 | .sl _ _,_=>rfl
 | .undef,_=>rfl
 | .int ..,_=>rfl
 | .bool _,_=>rfl
 | .str _,_=>rfl
 | .ptr ..,_=>rfl
 | .iptr ..,_=>rfl
 | .nilptr,_=>rfl
 | .mp ..,_=>rfl
 | .nilmap,_=>rfl
 | .fn ..,_=>rfl
 | .nilfn,_=>rfl
 | .nilif,_=>rfl
 | .bwd ..,_=>rfl
theorem q7p {h:List AObj}:∀ {vs:List AV},z4k vs=[]→z9t h vs=some (cvL vs)
 | [],_=>rfl
 | v::vs,ho=>by
   simp only[z4k,List.append_eq_nil_iff] at ho
   simp only[z9t,cvL,q5v ho.1,q7p ho.2]
end
theorem z1j {h:List AObj}:∀ {vs:List AV} {i:Nat},z4k vs=[]→z1n h [] i vs=some (cvL vs)
 | [],_,_=>rfl
 | v::vs,i,ho=>by
   simp only[z4k,List.append_eq_nil_iff] at ho
   simp only[z1n,cvL,List.contains_nil,Bool.false_eq_true,if_false,q5v ho.1,z1j ho.2]
theorem z4n:∀ {vs:List AV} {i:Nat},z4k vs=[]→z0s [] i vs=[]
 | [],_,_=>rfl
 | v::vs,i,ho=>by
   simp only[z4k,List.append_eq_nil_iff] at ho
   simp only[z0s,List.contains_nil,Bool.false_eq_true,if_false,ho.1,z4n ho.2,List.append_nil]
theorem z4g {T:List Nat}:∀ {h:List AObj} {k:Nat},(maskFrom T k h).length=h.length
 | [],_=>rfl
 | o::h,k=>by simp[maskFrom,z4g]
theorem x6y {T:List Nat}:∀ {h:List AObj} {k i:Nat},T.contains (k + i)=true→(maskFrom T k h)[i]? =h[i]?
 | [],_,_,_=>rfl
 | o::h,k,0,ht=>by
   rw[Nat.add_zero] at ht
   simp only[maskFrom,ht,if_true,List.getElem?_cons_zero]
 | o::h,k,i + 1,ht=>by
   simp only[maskFrom,List.getElem?_cons_succ]
   exact x6y (by rw[Nat.add_assoc,Nat.add_comm 1 i];exact ht)
theorem z5y:∀ {h h':List AObj} {k:Nat},z0r [] k h h'=h
 | [],[],_=>rfl
 | [],_::_,_=>rfl
 | o::h,[],_=>rfl
 | o::h,o'::h',k=>by simp[z0r,z5y]
theorem x6z {s:Nat}:∀ {h h':List AObj} {k:Nat} {o:AObj},s < h.length→h'[s]? =some o→z0r [k + s] k h h'=h.set s o
 | [],h',k,o,hs,_=>by simp at hs
 | a::h,[],k,o,hs,ho=>by simp at ho
 | a::h,b::h',k,o,hs,ho=>by
   cases s with
   | zero=>
     simp at ho
     subst ho
     have:∀ {h h':List AObj} {j:Nat},k < j→z0r [k] j h h'=h:=by
      intro h
      induction h with
      | nil=>intro h' j _;cases h' <;> rfl
      | cons x h ih=>
        intro h' j hj
        cases h' with
        | nil=>rfl
        | cons y h'=>
          have hne:¬ j=k:=by omega
          simp only[z0r,List.contains_cons,List.contains_nil,Bool.or_false,beq_iff_eq,hne,if_false]
          rw[ih (by omega)]
     simp only[z0r,Nat.add_zero,List.contains_cons,List.contains_nil,Bool.or_false,beq_self_eq_true,if_true,List.set_cons_zero]
     rw[this (by omega)]
   | succ s=>
     have hne:¬ k=k + (s + 1):=by omega
     simp only[z0r,List.contains_cons,List.contains_nil,Bool.or_false,beq_iff_eq,hne,if_false,List.set_cons_succ]
     rw[show k + (s + 1)=k + 1 + s by omega,x6z (by simpa using hs) (by simpa using ho)]
def x7a (T:List Nat) (os:List (Nat×Nat)):Bool:=os.all fun p=> !T.contains p.1
def RV (T:List Nat) (x:Option (List AV)) (R:AV→List AObj→Prop) (h:List AObj):Prop:=
 match x with
 | some vs=>∃ v,conv h (z1k vs)=some v∧v.ids=[]∧x7a T (z1k vs).obs=true∧R v h
 | none=>False
def j8w (T:List Nat) (rs:List ARes) (R:AV→List AObj→Prop):Post:=fun e s=>(∀ i,e≠ .exit i)∧RV T (z1s s.h s.ts rs) R s.h
theorem z0h {T:List Nat} {vs:List AV} {R:AV→List AObj→Prop} {h:List AObj} (ho:(z1k vs).obs=[]) (hi:(z1k vs).cv.ids=[]):RV T (some vs) R h=R (z1k vs).cv h:=by
 apply propext
 constructor
 ·rintro ⟨v,h1,_,_,h2⟩
  rw[q5v ho] at h1
  injection h1 with h1
  subst h1
  exact h2
 ·exact fun hr=>⟨_,q5v ho,hi,by rw[ho];rfl,hr⟩
section
variable {Γ:AProg}
theorem q5w {s:Nat}:∀ {os:List (Nat×Nat)} {h:List AObj},os.all (fun p=> !([s].contains p.1))=true→(freezeAll h os)[s]? =h[s]?
 | [],_,_=>rfl
 | o::os,h,ho=>by
   simp only[List.all_cons,Bool.and_eq_true,Bool.not_eq_true'] at ho
   simp only[freezeAll]
   rw[q5w (by simpa using ho.2)]
   have hne:o.1≠s:=by
    have:=ho.1
    simp at this
    exact this
   split
   ·rw[List.getElem?_set_ne hne]
   ·rfl
theorem x3x {T:List Nat} {rs:List ARes} {R:AV→List AObj→Prop} {e:AEx} {s:St} (h:j8w T rs R e s):(∀ i,e≠ .exit i)∧∃ vs v,z1s s.h s.ts rs=some vs∧conv s.h (z1k vs)=some v∧v.ids=[]∧x7a T (z1k vs).obs=true∧R v s.h:=by
 obtain⟨h1,h2⟩:=h
 refine⟨h1, ?_⟩
 unfold RV at h2
 split at h2
 ·rename_i vs hv
  obtain⟨v,h3,h4,h5,h6⟩:=h2
  exact⟨vs,v,hv,h3,h4,h5,h6⟩
 ·exact h2.elim
theorem k4p {T:List Nat} {rs:List ARes} {R:AV→List AObj→Prop} {ts:Tmps} {h:List AObj} {c:Nat}:j8w T rs R .ret ⟨ts,h,c⟩=RV T (z1s h ts rs) R h:=by
 simp[j8w]
theorem j8x {T:List Nat} {rs:List ARes} {R:AV→List AObj→Prop} {ts:Tmps} {h:List AObj} {c:Nat}:j8w T rs R .norm ⟨ts,h,c⟩=RV T (z1s h ts rs) R h:=by
 simp[j8w]
theorem q5x {f:Nat} {args az:List AV} {h:List AObj} {clk:Nat} {af:AFun} {Q:AV→List AObj→Nat→Prop} (hext:Γ.ext f=none) (hfn:Γ.fn f=some af) (hb:af.byref=[]) (ho:af.owned=false) (hobs:z4k args=[]) (has:cvL args=az) (hids:idsL az=[])
  (hw:∀ (D:List AObj) (B:Nat) (R:AV→List AObj→Prop),D.length=B→(∀ v h',Q v h clk→R v h')→K Γ B af.body [] ⟨q0b az,D++List.replicate af.nslots .dead,clk⟩ (j8w [] af.results fun v h'=>R v h')):WC Γ f args h clk Q:=by
 obtain⟨k,e,s,he,hend⟩:=hw (maskFrom [] 0 h) _ (fun v _=>Q v h clk) rfl (fun _ _ h=>h)
 obtain⟨hne,vs,v,hr,hc,hv,_,hQ⟩:=x3x hend
 rw[z4g] at he
 refine⟨k,v,h,clk, ?_,hQ⟩
 have hp:z1n h af.byref 0 args=some az:=by rw[hb,z1j hobs,has]
 have hl:z0s af.byref 0 args=[]:=by rw[hb];exact z4n hobs
 unfold z5b z0k
 simp only[hext,hfn,hp,hl,freezeAll,hids,reach,he,ho,Bool.false_eq_true,if_false,hr,hc,z5y]
 cases e with
 | exit i=>exact absurd rfl (hne i)
 | norm=>simp[hv]
 | ret=>simp[hv]
theorem q1e {f:Nat} {args az:List AV} {h:List AObj} {af:AFun} (hfn:Γ.fn f=some af) (hb:af.byref=[]) (hobs:z4k args=[]) (has:cvL args=az) (hids:idsL az=[]):z0v Γ f args h=[]:=by
 unfold z0v
 rw[hobs]
 cases Γ.ext f with
 | some _=>rfl
 | none=>
   have hp:z1n h af.byref 0 args=some az:=by rw[hb,z1j hobs,has]
   simp only[hfn,hp,hids,reach]
   rfl
theorem Pure.of {f:Nat} {args az:List AV} {v:AV} {af:AFun} (hext:Γ.ext f=none) (hfn:Γ.fn f=some af) (hb:af.byref=[]) (ho:af.owned=false) (hobs:z4k args=[]) (has:cvL args=az) (hids:idsL az=[])
  (hw:∀ (D:List AObj) (B clk:Nat) (R:AV→List AObj→Prop),D.length=B→(∀ h',R v h')→K Γ B af.body [] ⟨q0b az,D++List.replicate af.nslots .dead,clk⟩ (j8w [] af.results R)):Pure Γ f args v:=fun h clk=>by
 refine⟨?_,q1e hfn hb hobs has hids⟩
 obtain⟨k,v',h',c,he,rfl,rfl,rfl⟩:=q5x (Q:=fun v' h' c'=>v'=v∧h'=h∧c'=clk) hext hfn hb ho hobs has hids (fun D B R hB hR=>hw D B clk R hB (fun h'=>hR v h' ⟨rfl,rfl,rfl⟩))
 exact⟨k,he⟩
theorem j2i {T:List Nat}:∀ {h:List AObj} {k i:Nat},T.contains (k + i)=true→(maskFrom T k h)[i]? =h[i]?
 | [],_,_,_=>rfl
 | o::h,k,0,hc=>by
   rw[Nat.add_zero] at hc
   simp only[maskFrom,hc,if_true,List.getElem?_cons_zero]
 | o::h,k,i + 1,hc=>by
   simp only[maskFrom,List.getElem?_cons_succ]
   exact j2i (by rw[Nat.add_assoc,Nat.add_comm 1 i];exact hc)
theorem w0o {f s:Nat} {args az:List AV} {h:List AObj} {clk:Nat} {af:AFun} {obj:AObj} {Q:AV→List AObj→Nat→Prop} (hext:Γ.ext f=none) (hfn:Γ.fn f=some af) (hb:af.byref=[]) (ho:af.owned=false) (hobs:z4k args=[]) (has:cvL args=az) (hids:idsL az=[s]) (hs:h[s]? =some obj) (hoi:obj.ids=[])
  (hw:∀ (D:List AObj) (B:Nat) (R:AV→List AObj→Prop),D.length=B→D[s]? =some obj→s < B→(∀ v h' o',h'[s]? =some o'→o'.ids=[]→Q v (h.set s o') clk→R v h')→K Γ B af.body [] ⟨q0b az,D++List.replicate af.nslots .dead,clk⟩ (j8w [s] af.results R)):WC Γ f args h clk Q:=by
 have hlt:s < h.length:=by
  rw[List.getElem?_eq_some_iff] at hs
  exact hs.1
 have hp:z1n h af.byref 0 args=some az:=by rw[hb,z1j hobs,has]
 have hl:z0s af.byref 0 args=[]:=by rw[hb];exact z4n hobs
 obtain⟨k,e,s1,he,hend⟩:=hw (maskFrom [s] 0 h) _ (fun v h'=>∃ o',h'[s]? =some o'∧o'.ids=[]∧Q v (h.set s o') clk) rfl (by rw[j2i (by simp)];exact hs) (by rw[z4g];exact hlt) (fun v h' o' h1 h2 h3=>⟨o',h1,h2,h3⟩)
 obtain⟨hne,vs,v,hr,hc,hv,hno,o',h1,h2,hQ⟩:=x3x hend
 rw[z4g] at he
 refine⟨k,v,h.set s o',clk, ?_,hQ⟩
 have hreach:reach h (h.length + 1) [] [s]=[s]:=by
  simp only[reach,List.contains_nil,Bool.false_eq_true,if_false,hs,Option.map_some,hoi,Option.getD_some,List.nil_append]
  cases h.length <;> rfl
 have hfr:(freezeAll s1.h (z1k vs).obs)[s]? =some o':=by
  rw[q5w (by simpa [x7a] using hno),h1]
 have hm:z0r [s] 0 h (freezeAll s1.h (z1k vs).obs)=h.set s o':=by
  have:=x6z (s:=s) (h:=h) (h':=freezeAll s1.h (z1k vs).obs) (k:=0) hlt hfr
  rw[Nat.zero_add] at this
  exact this
 unfold z5b z0k
 simp only[hext,hfn,hp,hl,freezeAll,hids,hreach,he,ho,Bool.false_eq_true,if_false,hr,hc,List.isEmpty_cons,Bool.and_false,hm]
 have hall:((v.ids++(List.map (fun i=>(Option.map AObj.ids (freezeAll s1.h (z1k vs).obs)[i]?).getD []) [s]).flatten).all fun x=>decide (x < h.length))=true:=by
  simp[hv,hfr,h2]
 cases e with
 | exit i=>exact absurd rfl (hne i)
 | norm=>simp only[hall,if_true]
 | ret=>simp only[hall,if_true]
section
variable {h:List AObj} {base g:Nat} {ts:Tmps}
def j8y (h:List AObj):AV→AV→AV→Option (AV×List AObj)
 | .bool t,a,b=>some (if t then a else b,h)
 | _,_,_=>none
def v3i (h:List AObj) (slot g:Nat) (v:AV):Option (AV×List AObj):=
 if v.cells.isEmpty || !v.def? then none else some (.ptr slot g 0 0,h.set slot (.blk g [v] false false 0))
def q1u (h:List AObj) (sz:Option Nat):AV→Option (AV×List AObj)
 | .ptr s g i o=>match z2a h s g with
   | some (es,_,_,_)=>(es[i]?).bind fun e=>(z1q e.cells o sz).map (·,h)
   | none=>none
 | .iptr cs o=>(z1q cs o sz).map (·,h)
 | _=>none
def z8s (h:List AObj) (sz:Nat) (v:AV):AV→Option (AV×List AObj)
 | .ptr s g i o=>match z2a h s g with
   | some (es,row,grow,fz)=>
     match es[i]?,(if row then pub h v else some (v,h)) with
     | some e,some (v',h')=>
       if v'.def? =true∧v'.cells.length=sz∧v'.cells.all AV.one=true∧(row=true→fz≤i∧ !(v.obs.map (·.1)).contains s) then
        (z9z e.cells o v'.cells).map fun cs=>(.undef,h'.set s (.blk g (es.set i (z9j e cs)) row grow fz))
       else none
     | _,_=>none
   | none=>none
 | _=>none
def j8z (h:List AObj) (o:Nat):AV→Option (AV×List AObj)
 | .ptr s g i p=>some (.ptr s g i (p + o),h)
 | .iptr cs p=>some (.iptr cs (p + o),h)
 | _=>none
def k4q (h:List AObj):AV→Option (AV×List AObj)
 | .ptr s g i o=>some (.ptr s g i o,h)
 | .iptr cs o=>some (.iptr cs o,h)
 | _=>none
def y1r (h:List AObj) (i:Nat):AV→Option (AV×List AObj)
 | .tup cs=>(cs[i]?).map (·,h)
 | _=>none
def z7d (h:List AObj) (op:BinOp) (t:ETy) (x y:AV):Option (AV×List AObj):=(z4q op t x y).map (·,h)
def k9k (h:List AObj) (t:LenTy) (x:AV):Option (AV×List AObj):=(q0a h t x).map (·,h)
def unV (h:List AObj) (op:UnOp) (x:AV):Option (AV×List AObj):=(k3m op x).map (·,h)
def v3j (h:List AObj) (k:IntKind):AV→Option (AV×List AObj)
 | .int _ n=>some (.int k (k.wrap n),h)
 | _=>none
def z1m (h:List AObj) (esz:Nat):AV→AV→Option (AV×List AObj)
 | .sl xs _, .int _ i=>if 0≤i then match xs[i.toNat]? with
   | some e=>if e.cells.length=esz then some (.iptr e.cells 0,h) else none
   | none=>none
   else none
 | .ob s g off len, .int _ i=>if 0≤i then match z2a h s g with
   | some (es,true,_,_)=>match es[off + i.toNat]? with
     | some e=>if i.toNat < len∧e.cells.length=esz then some (.ptr s g (off + i.toNat) 0,h) else none
     | none=>none
   | _=>none
   else none
 | _,_=>none
def q4s (h:List AObj):AV→AV→Option (AV×List AObj)
 | .str s, .int _ i=>if 0≤i then (s[i.toNat]?).map fun (b:Nat)=>(.int .u8 (Int.ofNat b),h) else none
 | _,_=>none
theorem k9l {c a b:AOpd}:prim h base g ts (.pick c a b)=j8y h (c.ev ts) (a.ev ts) (b.ev ts):=by
 simp only[prim]
 cases c.ev ts <;> simp only[j8y]
 rename_i t
 cases t <;> rfl
theorem v3k {k:Nat} {z:AV}:prim h base g ts (.alloc k z)=v3i h (base + k) g z:=(rfl)
theorem y2h {k:Nat} {x:AOpd}:prim h base g ts (.box k x)=v3i h (base + k) g (x.ev ts):=(rfl)
theorem v3l {z:List AV} {ps:List (Nat×Nat×AOpd)}:prim h base g ts (.build z ps)=(z5v z (ps.map fun p=>(p.1,p.2.1,p.2.2.ev ts))).map fun cs=>(.agg cs,h):=(rfl)
theorem w0p {sz:Option Nat} {a:AOpd}:prim h base g ts (.load sz a)=q1u h sz (a.ev ts):=by
 simp only[prim];cases a.ev ts <;> rfl
theorem v3m {sz:Nat} {a x:AOpd}:prim h base g ts (.store sz a x)=z8s h sz (x.ev ts) (a.ev ts):=by
 simp only[prim];cases a.ev ts <;> rfl
theorem j5q {x:AOpd}:prim h base g ts (.nilCheck x)=k4q h (x.ev ts):=by
 simp only[prim];cases x.ev ts <;> rfl
theorem v3n {op:BinOp} {t:ETy} {x y:AOpd}:prim h base g ts (.binOp op t x y)=z7d h op t (x.ev ts) (y.ev ts):=(rfl)
theorem w0q {op:UnOp} {x:AOpd}:prim h base g ts (.unOp op x)=unV h op (x.ev ts):=(rfl)
theorem w0r {k:IntKind} {x:AOpd}:prim h base g ts (.cInt k x)=v3j h k (x.ev ts):=by
 simp only[prim];cases x.ev ts <;> rfl
theorem x9p {x:AOpd} {o:Nat}:prim h base g ts (.fieldAddr x o)=j8z h o (x.ev ts):=by
 simp only[prim];cases x.ev ts <;> rfl
theorem q9a {esz:Nat} {x ix:AOpd}:prim h base g ts (.indexAddr none esz x ix)=z1m h esz (x.ev ts) (ix.ev ts):=by
 simp only[prim];cases ix.ev ts <;> cases x.ev ts <;> simp only[z1m] <;> split <;> rfl
theorem k4r {x ix:AOpd}:prim h base g ts (.index none x ix)=q4s h (x.ev ts) (ix.ev ts):=by
 simp only[prim];cases ix.ev ts <;> cases x.ev ts <;> simp only[q4s] <;> split <;> rfl
theorem j5r {f:Nat} {cap:List AOpd}:prim h base g ts (.makeFunc f cap)=some (.fn f (cap.map (·.ev ts)),h):=(rfl)
theorem j9b {x:AOpd} {i:Nat}:prim h base g ts (.extract x i)=y1r h i (x.ev ts):=by
 simp only[prim];cases x.ev ts <;> rfl
theorem y2i {t:LenTy} {x:AOpd}:prim h base g ts (.len t x)=k9k h t (x.ev ts):=(rfl)
theorem k4s {k esz b:Nat} {mu:Bool} {x y:AOpd}:prim h base g ts (.append k esz b mu x y)=z1g h (base + k) g esz b mu (x.ev ts) (y.ev ts):=(rfl)
theorem j9c {k:Nat}:prim h base g ts (.makeMap k)=some (.mp (base + k) g,h.set (base + k) (.map g [])):=(rfl)
def PP (Γ:AProg) (base:Nat) (x:Option (AV×List AObj)) (dst:Option Nat) (g:Nat) (os:List AOper) (ts:Tmps) (clk:Nat) (ks:List Kf) (Q:Post):Prop:=
 match x with
 | some (v,h')=>O Γ base .plain (g + 1) os ⟨z9f ts dst v,h',clk⟩ ks Q
 | none=>False
section
variable {clk:Nat} {ks:List Kf} {Q:Post} {os:List AOper} {dst:Option Nat} {m:Md}
theorem j9d {v:AV} {d:Nat}:PP Γ base (some (v,h)) (some d) g os ts clk ks Q=O Γ base .plain (g + 1) os ⟨upd ts d v,h,clk⟩ ks Q:=(rfl)
theorem v3p {v:AV}:PP Γ base (some (v,h)) none g os ts clk ks Q=O Γ base .plain (g + 1) os ⟨ts,h,clk⟩ ks Q:=(rfl)
theorem q3c {op:AOp} (hop:op.isCall=false):O Γ base .plain g (⟨dst,op,none⟩::os) ⟨ts,h,clk⟩ ks Q=PP Γ base (prim h base g ts op) dst g os ts clk ks Q:=z6v hop
theorem k9m {x:AOpd} {d:Nat}:O Γ base .plain g (⟨some d, .move x,none⟩::os) ⟨ts,h,clk⟩ ks Q=O Γ base .plain (g + 1) os ⟨upd ts d (x.ev ts),h,clk⟩ ks Q:=z6v rfl
theorem w0s {c a b:AOpd}:O Γ base .plain g (⟨dst,(.pick c a b),none⟩::os) ⟨ts,h,clk⟩ ks Q=PP Γ base (j8y h (c.ev ts) (a.ev ts) (b.ev ts)) dst g os ts clk ks Q:=by rw[q3c rfl,k9l]
theorem v3q {k:Nat} {z:AV}:O Γ base .plain g (⟨dst,(.alloc k z),none⟩::os) ⟨ts,h,clk⟩ ks Q=PP Γ base (v3i h (base + k) g z) dst g os ts clk ks Q:=by rw[q3c rfl,v3k]
theorem y2j {k:Nat} {x:AOpd}:O Γ base .plain g (⟨dst,(.box k x),none⟩::os) ⟨ts,h,clk⟩ ks Q=PP Γ base (v3i h (base + k) g (x.ev ts)) dst g os ts clk ks Q:=by rw[q3c rfl,y2h]
theorem v3r {z:List AV} {ps:List (Nat×Nat×AOpd)}:O Γ base .plain g (⟨dst,(.build z ps),none⟩::os) ⟨ts,h,clk⟩ ks Q=PP Γ base ((z5v z (ps.map fun p=>(p.1,p.2.1,p.2.2.ev ts))).map fun cs=>(.agg cs,h)) dst g os ts clk ks Q:=by rw[q3c rfl,v3l]
theorem w0t {sz:Option Nat} {a:AOpd}:O Γ base .plain g (⟨dst,(.load sz a),none⟩::os) ⟨ts,h,clk⟩ ks Q=PP Γ base (q1u h sz (a.ev ts)) dst g os ts clk ks Q:=by rw[q3c rfl,w0p]
theorem v3s {sz:Nat} {a x:AOpd}:O Γ base .plain g (⟨dst,(.store sz a x),none⟩::os) ⟨ts,h,clk⟩ ks Q=PP Γ base (z8s h sz (x.ev ts) (a.ev ts)) dst g os ts clk ks Q:=by rw[q3c rfl,v3m]
theorem j5s {x:AOpd}:O Γ base .plain g (⟨dst,(.nilCheck x),none⟩::os) ⟨ts,h,clk⟩ ks Q=PP Γ base (k4q h (x.ev ts)) dst g os ts clk ks Q:=by rw[q3c rfl,j5q]
theorem j9e {op:BinOp} {t:ETy} {x y:AOpd}:O Γ base .plain g (⟨dst,(.binOp op t x y),none⟩::os) ⟨ts,h,clk⟩ ks Q=PP Γ base (z7d h op t (x.ev ts) (y.ev ts)) dst g os ts clk ks Q:=by rw[q3c rfl,v3n]
theorem w0u {op:UnOp} {x:AOpd}:O Γ base .plain g (⟨dst,(.unOp op x),none⟩::os) ⟨ts,h,clk⟩ ks Q=PP Γ base (unV h op (x.ev ts)) dst g os ts clk ks Q:=by rw[q3c rfl,w0q]
theorem w0v {k:IntKind} {x:AOpd}:O Γ base .plain g (⟨dst,(.cInt k x),none⟩::os) ⟨ts,h,clk⟩ ks Q=PP Γ base (v3j h k (x.ev ts)) dst g os ts clk ks Q:=by rw[q3c rfl,w0r]
theorem x9q {x:AOpd} {o:Nat}:O Γ base .plain g (⟨dst,(.fieldAddr x o),none⟩::os) ⟨ts,h,clk⟩ ks Q=PP Γ base (j8z h o (x.ev ts)) dst g os ts clk ks Q:=by rw[q3c rfl,x9p]
theorem x9r {esz:Nat} {x ix:AOpd}:O Γ base .plain g (⟨dst,(.indexAddr none esz x ix),none⟩::os) ⟨ts,h,clk⟩ ks Q=PP Γ base (z1m h esz (x.ev ts) (ix.ev ts)) dst g os ts clk ks Q:=by rw[q3c rfl,q9a]
theorem k4t {x ix:AOpd}:O Γ base .plain g (⟨dst,(.index none x ix),none⟩::os) ⟨ts,h,clk⟩ ks Q=PP Γ base (q4s h (x.ev ts) (ix.ev ts)) dst g os ts clk ks Q:=by rw[q3c rfl,k4r]
theorem j5t {f:Nat} {cap:List AOpd}:O Γ base .plain g (⟨dst,(.makeFunc f cap),none⟩::os) ⟨ts,h,clk⟩ ks Q=PP Γ base (some (.fn f (cap.map (·.ev ts)),h)) dst g os ts clk ks Q:=by rw[q3c rfl,j5r]
theorem j9f {x:AOpd} {i:Nat}:O Γ base .plain g (⟨dst,(.extract x i),none⟩::os) ⟨ts,h,clk⟩ ks Q=PP Γ base (y1r h i (x.ev ts)) dst g os ts clk ks Q:=by rw[q3c rfl,j9b]
theorem y2k {t:LenTy} {x:AOpd}:O Γ base .plain g (⟨dst,(.len t x),none⟩::os) ⟨ts,h,clk⟩ ks Q=PP Γ base (k9k h t (x.ev ts)) dst g os ts clk ks Q:=by rw[q3c rfl,y2i]
theorem k4u {k esz b:Nat} {mu:Bool} {x y:AOpd}:O Γ base .plain g (⟨dst,(.append k esz b mu x y),none⟩::os) ⟨ts,h,clk⟩ ks Q=PP Γ base (z1g h (base + k) g esz b mu (x.ev ts) (y.ev ts)) dst g os ts clk ks Q:=by rw[q3c rfl,k4s]
theorem j9g {k:Nat}:O Γ base .plain g (⟨dst,(.makeMap k),none⟩::os) ⟨ts,h,clk⟩ ks Q=PP Γ base (some (.mp (base + k) g,h.set (base + k) (.map g []))) dst g os ts clk ks Q:=by rw[q3c rfl,j9c]
end
theorem j5u {t:Bool} {a b:AV}:j8y h (.bool t) a b=some (if t then a else b,h):=(rfl)
theorem j5v {sz:Option Nat} {cs:List AV} {o:Nat}:q1u h sz (.iptr cs o)=(z1q cs o sz).map (·,h):=(rfl)
theorem j9h {sz:Option Nat} {s q i o:Nat}:q1u h sz (.ptr s q i o)=match z2a h s q with
 | some (es,_,_,_)=>(es[i]?).bind fun e=>(z1q e.cells o sz).map (·,h)
 | none=>none:=rfl
theorem j9i {s q i o:Nat}:k4q h (.ptr s q i o)=some (.ptr s q i o,h):=(rfl)
theorem j9j {s q i p o:Nat}:j8z h o (.ptr s q i p)=some (.ptr s q i (p + o),h):=(rfl)
theorem j5w {cs:List AV} {p o:Nat}:j8z h o (.iptr cs p)=some (.iptr cs (p + o),h):=(rfl)
theorem k4v {i:Nat} {cs:List AV}:y1r h i (.tup cs)=(cs[i]?).map (·,h):=(rfl)
theorem j9k {k j:IntKind} {n:Int}:v3j h k (.int j n)=some (.int k (k.wrap n),h):=(rfl)
theorem v3u {xs:List AV} {t:Tip}:k9k h .sl (.sl xs t)=some (.int .i64 xs.length,h):=(rfl)
theorem k4w {s:List Nat}:k9k h .str (.str s)=some (.int .i64 s.length,h):=(rfl)
theorem v3v {s q o l:Nat}:k9k h .sl (.ob s q o l)=some (.int .i64 l,h):=(rfl)
theorem v3w {b:Bool}:unV h .not (.bool b)=some (.bool (!b),h):=(rfl)
theorem v3x {k:IntKind} {n:Int}:unV h .neg (.int k n)=some (.int k (k.wrap (0 - n)),h):=(rfl)
section
variable {t:ETy} {k:IntKind} {a b:Int}
theorem k9n:z7d h .add t (.int k a) (.int k b)=some (.int k (k.wrap (a + b)),h):=by simp[z7d,z4q,z7x]
theorem w0w:z7d h .sub t (.int k a) (.int k b)=some (.int k (k.wrap (a - b)),h):=by simp[z7d,z4q,z7x]
theorem w0x:z7d h .mul t (.int k a) (.int k b)=some (.int k (k.wrap (a * b)),h):=by simp[z7d,z4q,z7x]
theorem x2i (hb:b≠0):z7d h .quo t (.int k a) (.int k b)=some (.int k (k.wrap (a.tdiv b)),h):=by simp[z7d,z4q,z7x,hb]
theorem q6y (hb:b≠0):z7d h .rem t (.int k a) (.int k b)=some (.int k (a.tmod b),h):=by simp[z7d,z4q,z7x,hb]
theorem w0y:z7d h .eql t (.int k a) (.int k b)=some (.bool (decide (a=b)),h):=by simp[z7d,z4q,z7x]
theorem w0z:z7d h .neq t (.int k a) (.int k b)=some (.bool (!decide (a=b)),h):=by simp[z7d,z4q,z7x]
theorem w1a:z7d h .lss t (.int k a) (.int k b)=some (.bool (decide (a < b)),h):=by simp[z7d,z4q,z7x]
theorem w1b:z7d h .leq t (.int k a) (.int k b)=some (.bool (decide (a≤b)),h):=by simp[z7d,z4q,z7x]
theorem w1c:z7d h .gtr t (.int k a) (.int k b)=some (.bool (decide (b < a)),h):=by simp[z7d,z4q,z7x]
theorem w1d:z7d h .geq t (.int k a) (.int k b)=some (.bool (decide (b≤a)),h):=by simp[z7d,z4q,z7x]
end
section
variable {t:ETy} {a b:List Nat}
theorem w1e:z7d h .eql t (.str a) (.str b)=some (.bool (decide (a=b)),h):=by simp[z7d,z4q,q6m]
theorem w1f:z7d h .neq t (.str a) (.str b)=some (.bool (!decide (a=b)),h):=by simp[z7d,z4q,q6m]
theorem w1g:z7d h .lss t (.str a) (.str b)=some (.bool (z4u a b),h):=by simp[z7d,z4q,q6m]
theorem q3d (hl:a.length + b.length < 2 ^ 60):z7d h .add t (.str a) (.str b)=some (.str (a++b),h):=by
 simp only[z7d,z4q,q6m,if_pos hl,Option.map_some]
end
theorem w1h {a b:Bool}:z7d h .neq (.one .bool) (.bool a) (.bool b)=some (.bool (!(a==b)),h):=by simp[z7d,z4q,AV.eqv,AV.eq1]
theorem z5q {xs:List AV} {t:Tip} {esz i:Nat} {k:IntKind} {e:AV} (hx:xs[i]? =some e) (he:e.cells.length=esz):z1m h esz (.sl xs t) (.int k (i:Int))=some (.iptr e.cells 0,h):=by
 simp only[z1m,Int.natCast_nonneg,if_true,Int.toNat_natCast,hx,he]
theorem x7b {s:List Nat} {i b:Nat} {k:IntKind} (hx:s[i]? =some b):q4s h (.str s) (.int k (i:Int))=some (.int .u8 (b:Int),h):=by
 simp only[q4s,Int.natCast_nonneg,if_true,Int.toNat_natCast,hx,Option.map_some]
 rfl
end
end
theorem z0b {ts:Tmps} {d j:Nat} {v:AV}:upd ts d v j=bif j==d then v else ts j:=by
 unfold upd
 by_cases h:j=d
 ·subst h;simp
 ·have:(j==d)=false:=by simpa using h
  rw[if_neg h,this];rfl
theorem k9o {ts:Tmps} {t:Nat}:(AOpd.tmp t).ev ts=ts t:=(rfl)
theorem j2j {ts:Tmps} {v:AV}:(AOpd.const v).ev ts=v:=(rfl)
theorem z2w {a:AV} {az:List AV}:q0b (a::az) 0=a:=(rfl)
theorem z7g {a:AV} {az:List AV} {n:Nat}:q0b (a::az) (n + 1)=q0b az n:=(rfl)
theorem v3y {h:List AObj} {ts:Tmps}:z1s h ts []=some []:=(rfl)
def w1i (v:AV):Option (List AV)→Option (List AV)
 | some vs=>some (v::vs)
 | none=>none
theorem j5y {v:AV} {vs:List AV}:w1i v (some vs)=some (v::vs):=(rfl)
theorem v3z {h:List AObj} {ts:Tmps} {t:Nat} {rs:List ARes}:z1s h ts (.tmp t::rs)=w1i (ts t) (z1s h ts rs):=by
 simp only[z1s];cases z1s h ts rs <;> rfl
theorem k4x {b:Bool}:(b==true)=b:=by cases b <;> rfl
theorem j9l {b:Bool}:(b==false)= !b:=by cases b <;> rfl
theorem z0d {n:Int} (h1: -9223372036854775808≤n) (h2:n≤9223372036854775807):IntKind.i64.wrap n=n:=IntWalk.i64_in _ ⟨h1,h2⟩
theorem z8t {a d:AV} {l:List AV}:(a::l).getD 0 d=a:=(rfl)
theorem q9b {k:IntKind} {n:Int}:(AV.int k n).cells=[(AV.int k n)]:=(rfl)
theorem x9s {k:IntKind} {n:Int}:(AV.int k n).def? =true:=(rfl)
theorem x3y {k:IntKind} {n:Int}:(AV.int k n).one=true:=(rfl)
theorem x2j {k:IntKind} {n:Int} {cs:List AV}:z9j (AV.int k n) cs=cs.getD 0 .undef:=(rfl)
theorem x2k {b:Bool}:(AV.bool b).cells=[(AV.bool b)]:=(rfl)
theorem j2k {b:Bool}:(AV.bool b).def? =true:=(rfl)
theorem x3z {b:Bool}:(AV.bool b).one=true:=(rfl)
theorem j9m {s:List Nat}:(AV.str s).cells=[(AV.str s)]:=(rfl)
theorem v4a {s:List Nat}:(AV.str s).def? =true:=(rfl)
theorem j9n {s:List Nat}:(AV.str s).one=true:=(rfl)
theorem z3e {xs:List AV} {t:Tip}:(AV.sl xs t).cells=[(AV.sl xs t)]:=(rfl)
theorem w1j {xs:List AV} {t:Tip}:(AV.sl xs t).def? =true:=(rfl)
theorem w1k {xs:List AV} {t:Tip}:(AV.sl xs t).one=true:=(rfl)
theorem j9o {xs:List AV} {t:Tip} {cs:List AV}:z9j (AV.sl xs t) cs=cs.getD 0 .undef:=(rfl)
theorem k4y {a b c d:Nat}:(AV.ob a b c d).cells=[(AV.ob a b c d)]:=(rfl)
theorem w1l {a b c d:Nat}:(AV.ob a b c d).def? =true:=(rfl)
theorem w1m {a b c d:Nat}:(AV.ob a b c d).one=true:=(rfl)
theorem j9p {a b c d:Nat}:(AV.ptr a b c d).cells=[(AV.ptr a b c d)]:=(rfl)
theorem v4b {a b c d:Nat}:(AV.ptr a b c d).def? =true:=(rfl)
theorem v4c {a b c d:Nat}:(AV.ptr a b c d).one=true:=(rfl)
theorem x7c:(AV.nilptr).cells=[(AV.nilptr)]:=(rfl)
theorem j5z:(AV.nilptr).def? =true:=(rfl)
theorem x4a {cs:List AV}:z9j (AV.nilptr) cs=cs.getD 0 .undef:=(rfl)
theorem k4z {a b:Nat}:(AV.mp a b).cells=[(AV.mp a b)]:=(rfl)
theorem w1n {a b:Nat}:(AV.mp a b).def? =true:=(rfl)
theorem w1o {a b:Nat}:(AV.mp a b).one=true:=(rfl)
theorem x7d:(AV.nilmap).cells=[(AV.nilmap)]:=(rfl)
theorem j6a:(AV.nilmap).def? =true:=(rfl)
theorem x4b {cs:List AV}:z9j (AV.nilmap) cs=cs.getD 0 .undef:=(rfl)
theorem j9q {cs:List AV}:(AV.agg cs).cells=cs:=(rfl)
theorem v4d {cs:List AV}:(AV.agg cs).def? =true:=(rfl)
theorem j6b {xs cs:List AV}:z9j (.agg xs) cs= .agg cs:=(rfl)
attribute [go_sem] q9b x9s x3y x2j x2k j2k x3z j9m v4a j9n z3e w1j w1k j9o k4y w1l w1m j9p v4b v4c x7c j5z x4a k4z w1n w1o x7d j6a x4b j9q v4d j6b
theorem x7e {f:List Nat×List Nat}:Md.plain.add f= .plain:=(rfl)
theorem k5a {N:Nat} {ops:List AOper} {ps:List (Nat×Nat)} {fs:List (List Nat×List Nat)} {f:List Nat×List Nat}:(Md.draw N ops ps fs).add f= .draw N ops ps (fs++[f]):=(rfl)
attribute [go_sem] x7e k5a v3b v3c q5u x6v j5o x6w j8u x9n x2f x2g x6x v3d k4l w0l k4m q8z v3g v3e w0m v3f k4n w0n v3h y2g j9d v3p k9m w0s v3q y2j v3r w0t v3s j5s j9e w0u w0v x9q x9r k4t j5t j9f y2k k4u j9g z0b cond_true cond_false k9o j2j z2w z7g v3y j5y v3z k4x j9l k4p j8x List.map_cons List.map_nil Option.map_some Option.map_none Option.bind_some Option.bind_none if_true if_false j5u j5v j9h j9i j9j j5w k4v j9k v3u k4w v3v v3w v3x k9n w0w w0x w0y w0z w1a w1b w1c w1d w1e w1f w1g w1h z9f
attribute [go_sem_proc] z0 z1 z2 z3 reduceCtorEq
attribute [go_sem_proc ↓] reduceIte
end
end Go.Proofs.YtahdahokpjigiaaGreatDoor.Am
