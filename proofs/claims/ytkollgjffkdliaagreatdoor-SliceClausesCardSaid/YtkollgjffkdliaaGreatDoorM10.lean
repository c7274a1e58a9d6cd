/- Walking code of the abstract machine: what is left to do is data, so that rewriting never looks into it Walking code of the abstract machine: calls, and its operations az equations -/
import Derived.IntWalk
import Derived.Attr
import Derived.Test.YtkollgjffkdliaaGreatDoorM01
open Nat renaming reduceBEq → z0,reduceAdd → z1,reduceLeDiff → z2,reduceSub → z3
set_option linter.all false
namespace Go.Proofs.YtkollgjffkdliaaGreatDoor.Am
open Go
set_option maxRecDepth 100000
section
abbrev Run:=Nat→ACode→St→Option (AEx×St)
def v9d (R R':Run):Prop:=∀ b c s r,R b c s=some r→R' b c s=some r
def x3v (C C':Caller):Prop:=∀ f asx h c r,C f asx h c=some r→C' f asx h c=some r
theorem q1q {R R':Run} (hR:v9d R R') {Γ:AProg}:x3v (z0o R Γ) (z0o R' Γ):=by
 intro f args h clk x hc
 unfold z0o at hc⊢
 split at hc
 ·exact hc
 ·split at hc
  ·cases hc
  ·rename_i af haf
   split at hc
   ·cases hc
   ·rename_i asx has
    dsimp only at hc⊢
    generalize hE:R h.length af.body ⟨q0m asx,maskFrom (reach h (h.length + 1) [] (idsL asx)) 0 (freezeAll h (z0u af.byref 0 args))++List.replicate af.nslots .dead,clk⟩=E at hc
    cases E with
    | none=>cases hc
    | some r=>
      rw[hR _ _ _ _ hE]
      exact hc
theorem x3w {C C':Caller} (hC:x3v C C') {base g:Nat} {o:AOper} {s r:St} (h:stepA C base g o s=some r):stepA C' base g o s=some r:=by
 obtain⟨dst,op,guard⟩:=o
 unfold stepA at h⊢
 split at h
 ·rename_i hw
  simp only at h
  cases op
  case call f args=>
   simp only at h⊢
   split at h
   ·rename_i v h' c hc
    rw[hC _ _ _ _ _ hc]
    exact h
   ·cases h
  case callv x args=>
   simp only at h⊢
   split at h
   ·split at h
    ·rename_i v h' c hc
     rw[hC _ _ _ _ _ hc]
     exact h
    ·cases h
   ·cases h
  all_goals exact h
 ·rename_i hw
  exact h
 ·cases h
theorem x0l {C C':Caller} (hC:x3v C C') {base:Nat}:∀ {os:List AOper} {g:Nat} {s r:St},z8x C base g os s=some r→z8x C' base g os s=some r
 | [],_,_,_,h=>h
 | o::os,g,s,r,h=>by
   simp only[z8x] at h⊢
   split at h
   ·rename_i s1 h1
    rw[x3w hC h1]
    exact x0l hC h
   ·cases h
theorem q2p {C C':Caller} (hC:x3v C C') {Γ:AProg} {base:Nat}:∀ {os:List AOper} {g:Nat} {s:St} {r},z3g C Γ base g os s=some r→z3g C' Γ base g os s=some r
 | [],_,_,_,h=>h
 | o::os,g,s,r,h=>by
   simp only[z3g] at h⊢
   split at h
   ·rename_i s1 h1
    rw[x3w hC h1]
    simp only[Option.map_eq_some_iff] at h⊢
    obtain⟨a,h2,h3⟩:=h
    exact⟨a,q2p hC h2,h3⟩
   ·cases h
theorem j2j {C C':Caller} (hC:x3v C C') {Γ:AProg} {base n:Nat} {ops:List AOper} {ps:List (Nat×Nat)} {s r:St} (h:region C Γ base n ops ps s=some r):region C' Γ base n ops ps s=some r:=by
 unfold region at h⊢
 cases ps with
 | nil=>exact x0l hC h
 | cons p ps=>
   simp only at h⊢
   split at h
   ·rename_i s1 fs h1
    rw[q2p hC h1]
    exact h
   ·cases h
theorem q4s {R R':St→Option (AEx×St)} (hR:∀ s r,R s=some r→R' s=some r) {v:AV} {ts:Tmps} {p q:Nat}:∀ {n:Nat} {m r},q2i R v ts p q n m=some r→q2i R' v ts p q n m=some r
 | 0,_,_,h=>h
 | n + 1,m,r,h=>by
   simp only[q2i] at h⊢
   split at h
   ·rename_i x hx
    split at h
    ·rename_i s hs
     rw[hR _ _ hs]
     exact q4s hR h
    ·cases h
   ·cases h
theorem k2e {Γ:AProg}:∀ k,v9d (z4a Γ k) (z4a Γ (k + 1)):=by
 intro k
 induction k with
 | zero=>intro b c s r h;cases h
 | succ k ih=>
   intro b c s r h
   cases c with
   | skip=>exact h
   | exit i=>exact h
   | ret=>exact h
   | bad=>exact h
   | region n ops ps=>
     rw[z4a] at h⊢
     simp only[Option.map_eq_some_iff] at h⊢
     obtain⟨a,h1,h2⟩:=h
     exact⟨a,j2j (q1q ih) h1,h2⟩
   | seq x y=>
     rw[z4a] at h⊢
     split at h
     ·rename_i s1 h1
      rw[ih _ _ _ _ h1]
      exact ih _ _ _ _ h
     ·rename_i hn
      cases hx:z4a Γ k b x s with
      | none=>rw[hx] at h;cases h
      | some q=>
        rw[ih _ _ _ _ hx]
        rw[hx] at h
        split
        ·rename_i s1 e1
         injection e1 with e1
         exact absurd (e1 ▸ hx) (hn s1)
        ·exact h
   | cond x y z=>
     rw[z4a] at h⊢
     split at h
     ·exact ih _ _ _ _ h
     ·cases h
   | block i x=>
     rw[z4a] at h⊢
     cases hx:z4a Γ k b x s with
     | none=>rw[hx] at h;cases h
     | some q=>
       rw[ih _ _ _ _ hx]
       rw[hx] at h
       exact h
   | loop x=>
     rw[z4a] at h⊢
     split at h
     ·rename_i s1 h1
      rw[ih _ _ _ _ h1]
      exact ih _ _ _ _ h
     ·rename_i hn
      cases hx:z4a Γ k b x s with
      | none=>rw[hx] at h;cases h
      | some q=>
        rw[ih _ _ _ _ hx]
        rw[hx] at h
        split
        ·rename_i s1 e1
         injection e1 with e1
         exact absurd (e1 ▸ hx) (hn s1)
        ·exact h
   | rangeB x p q a y=>
     rw[z4a] at h⊢
     split at h
     ·split at h
      ·split at h
       ·rename_i f v _ n hn hi
        simp only[hi,if_true]
        simp only[Option.map_eq_some_iff] at h⊢
        obtain⟨m,h1,h2⟩:=h
        refine⟨m,q4s ?_ h1,h2⟩
        intro s r hr
        split at hr
        ·rename_i s1 hs
         rw[ih _ _ _ _ hs]
         exact ih _ _ _ _ hr
        ·rename_i hn2
         cases hx:z4a Γ k b a s with
         | none=>rw[hx] at hr;cases hr
         | some q=>
           rw[ih _ _ _ _ hx]
           rw[hx] at hr
           split
           ·rename_i s1 e1
            injection e1 with e1
            exact absurd (e1 ▸ hx) (hn2 s1)
           ·exact hr
       ·cases h
      ·cases h
     ·cases h
theorem q0g {Γ:AProg} {k k':Nat} (h:k≤k'):v9d (z4a Γ k) (z4a Γ k'):=by
 induction h with
 | refl=>exact fun _ _ _ _ h=>h
 | step _ ih=>exact fun _ _ _ _ h=>k2e _ _ _ _ _ (ih _ _ _ _ h)
theorem x5t {Γ:AProg} {k k':Nat} (h:k≤k'):x3v (z5g Γ k) (z5g Γ k'):=q1q (q0g h)
theorem z8m {Γ:AProg} {k k' b:Nat} {c:ACode} {s:St} {r r'} (h:z4a Γ k b c s=some r) (h':z4a Γ k' b c s=some r'):r=r':=by
 have h1:=q0g (Nat.le_max_left k k') _ _ _ _ h
 have h2:=q0g (Nat.le_max_right k k') _ _ _ _ h'
 rw[h1] at h2
 injection h2
theorem x0m {Γ:AProg} {k k' f:Nat} {asx:List AV} {h:List AObj} {c:Nat} {r r'} (h1:z5g Γ k f asx h c=some r) (h2:z5g Γ k' f asx h c=some r'):r=r':=by
 have h1:=x5t (Nat.le_max_left k k') _ _ _ _ _ h1
 have h2:=x5t (Nat.le_max_right k k') _ _ _ _ _ h2
 rw[h1] at h2
 injection h2
abbrev Post:=AEx→St→Prop
inductive Kf where
 | seq (b:ACode)
 | block (id:Nat)
def Kf.next:Kf→AEx→ACode
 | .seq b, .norm=>b
 | .seq _, .exit i=> .exit i
 | .seq _, .ret=> .ret
 | .block _, .norm=> .skip
 | .block i, .exit j=>if j=i then .skip else .exit j
 | .block _, .ret=> .ret
def Kf.on:Kf→ACode→ACode
 | .seq b,a=> .seq a b
 | .block i,a=> .block i a
section
variable (Γ:AProg)
def W (base:Nat) (c:ACode) (s:St) (Q:Post):Prop:=∃ k e s',z4a Γ k base c s=some (e,s')∧Q e s'
def WC (f:Nat) (args:List AV) (h:List AObj) (clk:Nat) (Q:AV→List AObj→Nat→Prop):Prop:=∃ k v h' c,z5g Γ k f args h clk=some (v,h',c)∧Q v h' c
def K (base:Nat) (c:ACode):List Kf→St→Post→Prop
 | [],s,Q=>W Γ base c s Q
 | f::ks,s,Q=>W Γ base c s fun e s'=>K base (f.next e) ks s' Q
end
section
variable {Γ:AProg} {base:Nat}
theorem q8f {s:St} {Q:Post}:W Γ base .skip s Q=Q .norm s:=by
 refine propext ⟨?_,fun h=>⟨1,_,_,rfl,h⟩⟩
 rintro ⟨k,e,s',h,hq⟩
 obtain⟨rfl⟩:=z8m (k':=1) h rfl
 exact hq
theorem j5f {i:Nat} {s:St} {Q:Post}:W Γ base (.exit i) s Q=Q (.exit i) s:=by
 refine propext ⟨?_,fun h=>⟨1,_,_,rfl,h⟩⟩
 rintro ⟨k,e,s',h,hq⟩
 obtain⟨rfl⟩:=z8m (k':=1) h rfl
 exact hq
theorem k8p {s:St} {Q:Post}:W Γ base .ret s Q=Q .ret s:=by
 refine propext ⟨?_,fun h=>⟨1,_,_,rfl,h⟩⟩
 rintro ⟨k,e,s',h,hq⟩
 obtain⟨rfl⟩:=z8m (k':=1) h rfl
 exact hq
theorem g0c {f:Kf} {c:ACode} {s:St} {Q:Post}:W Γ base (f.on c) s Q=W Γ base c s fun e s'=>W Γ base (f.next e) s' Q:=by
 apply propext
 constructor
 ·rintro ⟨k,e,s',h,hq⟩
  cases k with
  | zero=>cases h
  | succ k=>
    cases f with
    | seq b=>
      rw[Kf.on,z4a] at h
      split at h
      ·rename_i s1 h1
       exact⟨k, .norm,s1,h1,k,e,s',h,hq⟩
      ·rename_i hn
       cases e with
       | norm=>exact absurd h (hn s')
       | exit i=>exact⟨k,_,_,h,1,_,_,rfl,hq⟩
       | ret=>exact⟨k,_,_,h,1,_,_,rfl,hq⟩
    | block i=>
      rw[Kf.on,z4a] at h
      split at h
      ·rename_i j s1 h1
       split at h
       ·rename_i hj
        injection h with h
        injection h with e1 e2
        subst e1;subst e2
        exact⟨k,_,_,h1,by simp only[Kf.next,if_pos hj];exact⟨1,_,_,rfl,hq⟩⟩
       ·rename_i hj
        injection h with h
        injection h with e1 e2
        subst e1;subst e2
        exact⟨k,_,_,h1,by simp only[Kf.next,if_neg hj];exact⟨1,_,_,rfl,hq⟩⟩
      ·rename_i hn
       cases e with
       | norm=>exact⟨k,_,_,h,1,_,_,rfl,hq⟩
       | exit j=>exact absurd h (hn j s')
       | ret=>exact⟨k,_,_,h,1,_,_,rfl,hq⟩
 ·rintro ⟨k,e,s1,h1,k',e',s',h2,hq⟩
  have h1':=q0g (Nat.le_max_left k k') _ _ _ _ h1
  have h2':=q0g (Nat.le_max_right k k') _ _ _ _ h2
  refine⟨max k k' + 1,e',s', ?_,hq⟩
  cases f with
  | seq b=>
    rw[Kf.on,z4a]
    simp only[h1']
    cases e with
    | norm=>exact h2'
    | exit i=>exact (congrArg some (z8m (k':=1) h2 rfl)).symm
    | ret=>exact (congrArg some (z8m (k':=1) h2 rfl)).symm
  | block i=>
    rw[Kf.on,z4a]
    simp only[h1']
    cases e with
    | norm=>exact (congrArg some (z8m (k':=1) h2 rfl)).symm
    | exit j=>
      simp only[Kf.next] at h2
      by_cases hj:j=i
      ·simp only[if_pos hj] at h2⊢
       exact (congrArg some (z8m (k':=1) h2 rfl)).symm
      ·simp only[if_neg hj] at h2⊢
       exact (congrArg some (z8m (k':=1) h2 rfl)).symm
    | ret=>exact (congrArg some (z8m (k':=1) h2 rfl)).symm
variable {ks:List Kf} {s s':St} {Q:Post} {c c':ACode}
theorem w6w (h:∀ Q,W Γ base c s Q=W Γ base c' s' Q):K Γ base c ks s Q=K Γ base c' ks s' Q:=by
 cases ks <;> exact h _
theorem u6q {f:Kf}:K Γ base (f.on c) ks s Q=K Γ base c (f::ks) s Q:=by
 cases ks <;> exact g0c
theorem v9e {a b:ACode}:K Γ base (.seq a b) ks s Q=K Γ base a (.seq b::ks) s Q:=u6q (f:= .seq b)
theorem v9f {i:Nat} {a:ACode}:K Γ base (.block i a) ks s Q=K Γ base a (.block i::ks) s Q:=u6q (f:= .block i)
theorem q6u {b:ACode}:K Γ base .skip (.seq b::ks) s Q=K Γ base b ks s Q:=q8f
theorem x9j {i:Nat}:K Γ base .skip (.block i::ks) s Q=K Γ base .skip ks s Q:=q8f
theorem j8z {b:ACode} {i:Nat}:K Γ base (.exit i) (.seq b::ks) s Q=K Γ base (.exit i) ks s Q:=j5f
theorem x9k {i j:Nat}:K Γ base (.exit j) (.block i::ks) s Q=K Γ base (if j=i then .skip else .exit j) ks s Q:=j5f
theorem k2f {b:ACode}:K Γ base .ret (.seq b::ks) s Q=K Γ base .ret ks s Q:=k8p
theorem j2k {i:Nat}:K Γ base .ret (.block i::ks) s Q=K Γ base .ret ks s Q:=k8p
theorem x3x:K Γ base .skip [] s Q=Q .norm s:=q8f
theorem x3y {i:Nat}:K Γ base (.exit i) [] s Q=Q (.exit i) s:=j5f
theorem x9l:K Γ base .ret [] s Q=Q .ret s:=k8p
def BK (Γ:AProg) (base:Nat) (x:AV) (a b:ACode) (ks:List Kf) (s:St) (Q:Post):Prop:=
 match x with
 | .bool true=>K Γ base a ks s Q
 | .bool false=>K Γ base b ks s Q
 | _=>False
theorem v9g {a b:ACode}:BK Γ base (.bool true) a b ks s Q=K Γ base a ks s Q:=(rfl)
theorem k8q {a b:ACode}:BK Γ base (.bool false) a b ks s Q=K Γ base b ks s Q:=(rfl)
theorem z8n {x:Bool} {a b:ACode} (ha:x=true→K Γ base a ks s Q) (hb:x=false→K Γ base b ks s Q):BK Γ base (.bool x) a b ks s Q:=by
 cases x
 ·exact hb rfl
 ·exact ha rfl
theorem w6x {x:AOpd} {a b:ACode}:W Γ base (.cond x a b) s Q=match x.ev s.ts with
  | .bool true=>W Γ base a s Q
  | .bool false=>W Γ base b s Q
  | _=>False:=by
 apply propext
 have key:∀ t,x.ev s.ts= .bool t→(W Γ base (.cond x a b) s Q↔W Γ base (if t then a else b) s Q):=by
  intro t ht
  constructor
  ·rintro ⟨k,e,s',h,hq⟩
   cases k with
   | zero=>cases h
   | succ k=>
     rw[z4a] at h
     simp only[ht] at h
     exact⟨k,e,s',h,hq⟩
  ·rintro ⟨k,e,s',h,hq⟩
   exact⟨k + 1,e,s',by rw[z4a];simp only[ht];exact h,hq⟩
 split
 ·rename_i h;exact key true h
 ·rename_i h;exact key false h
 ·rename_i h1 h2
  refine⟨?_,False.elim⟩
  rintro ⟨k,e,s',h,hq⟩
  cases k with
  | zero=>cases h
  | succ k=>
    rw[z4a] at h
    split at h
    ·rename_i t ht
     cases t
     ·exact h2 ht
     ·exact h1 ht
    ·cases h
theorem w6y {x:AOpd} {a b:ACode}:K Γ base (.cond x a b) ks s Q=BK Γ base (x.ev s.ts) a b ks s Q:=by
 unfold BK
 cases ks <;> · unfold K;rw[w6x]
def x0n (Γ:AProg) (base:Nat) (s:St) (o:AOper) (h':List AObj):List Nat×List Nat:=
 if z6b s.ts o.guard=some true then foot Γ s.h h' base s.ts o.op else ([],[])
def z1e (N:Nat) (ops:List AOper) (fs:List (List Nat×List Nat)) (ps:List (Nat×Nat)):Bool:=
 ps.all fun p=>apart (fs.getD p.1 ([],[])) (fs.getD p.2 ([],[])) && (!(z0z ops p.1 || z0z ops p.2) || ((z1i fs p.1++z1i fs p.2).all (· < N)))
inductive Md where
 | plain
 | draw (N:Nat) (ops:List AOper) (ps:List (Nat×Nat)) (fs:List (List Nat×List Nat))
def Md.add (f:List Nat×List Nat):Md→Md
 | .plain=> .plain
 | .draw N ops ps fs=> .draw N ops ps (fs++[f])
def Md.adds:Md→List (List Nat×List Nat)→Md
 | m,[]=>m
 | m,f::fs=>(m.add f).adds fs
def Md.ok:Md→Bool
 | .plain=>true
 | .draw N ops ps fs=>z1e N ops fs ps
def O (Γ:AProg) (base:Nat) (m:Md) (g:Nat) (os:List AOper) (s:St) (ks:List Kf) (Q:Post):Prop:=
 ∃ k s' fs,z3g (z0o (z4a Γ k) Γ) Γ base g os s=some (s',fs)∧(m.adds fs).ok=true∧K Γ base .skip ks s' Q
variable {m:Md} {g:Nat} {os:List AOper}
theorem x0o:O Γ base .plain g [] s ks Q=K Γ base .skip ks s Q:=by
 refine propext ⟨?_,fun h=>⟨0,s,[],rfl,rfl,h⟩⟩
 rintro ⟨k,s',fs,h,_,hq⟩
 simp only[z3g,Option.some.injEq,Prod.mk.injEq] at h
 obtain⟨rfl,rfl⟩:=h
 exact hq
theorem j9a {N:Nat} {ops:List AOper} {ps:List (Nat×Nat)} {fs:List (List Nat×List Nat)}:O Γ base (.draw N ops ps fs) g [] s ks Q=(z1e N ops fs ps=true∧K Γ base .skip ks s Q):=by
 refine propext ⟨?_,fun h=>⟨0,s,[],rfl,h.1,h.2⟩⟩
 rintro ⟨k,s',fs',h,h2,hq⟩
 simp only[z3g,Option.some.injEq,Prod.mk.injEq] at h
 obtain⟨rfl,rfl⟩:=h
 exact⟨h2,hq⟩
theorem q4t {C:Caller}:∀ {os:List AOper} {g:Nat} {s:St},(z3g C Γ base g os s).map (·.1)=z8x C base g os s
 | [],_,_=>rfl
 | o::os,g,s=>by
   simp only[z3g,z8x]
   split
   ·rw[←q4t]
    simp only[Option.map_map]
    rfl
   ·rfl
theorem x3z:∀ {fs:List (List Nat×List Nat)},(Md.plain.adds fs)= .plain
 | []=>rfl
 | _::fs=>x3z (fs:=fs)
theorem q5s {N:Nat} {ops:List AOper} {ps:List (Nat×Nat)}:∀ {fs gs:List (List Nat×List Nat)},(Md.draw N ops ps gs).adds fs= .draw N ops ps (gs++fs)
 | [],gs=>by rw[List.append_nil];rfl
 | f::fs,gs=>by
   simp only[Md.adds,Md.add]
   rw[q5s,List.append_assoc]
   rfl
theorem q4c {n:Nat}:W Γ base (.region n os []) s Q=∃ k s',z8x (z0o (z4a Γ k) Γ) base s.clk os ⟨s.ts,s.h,s.clk + n⟩=some s'∧Q .norm s':=by
 apply propext
 constructor
 ·rintro ⟨k,e,s',h,hq⟩
  cases k with
  | zero=>cases h
  | succ k=>
    rw[z4a] at h
    simp only[region,Option.map_eq_some_iff] at h
    obtain⟨a,h1,h2⟩:=h
    simp only[Prod.mk.injEq] at h2
    obtain⟨rfl,rfl⟩:=h2
    exact⟨k,a,h1,hq⟩
 ·rintro ⟨k,s',h,hq⟩
  exact⟨k + 1, .norm,s',by rw[z4a];simp only[region,h,Option.map_some],hq⟩
theorem q5t {n:Nat} {p:Nat×Nat} {ps:List (Nat×Nat)}:W Γ base (.region n os (p::ps)) s Q=∃ k s' fs,z3g (z0o (z4a Γ k) Γ) Γ base s.clk os ⟨s.ts,s.h,s.clk + n⟩=some (s',fs)∧z1e s.h.length os fs (p::ps)=true∧Q .norm s':=by
 apply propext
 constructor
 ·rintro ⟨k,e,s',h,hq⟩
  cases k with
  | zero=>cases h
  | succ k=>
    rw[z4a] at h
    simp only[region,Option.map_eq_some_iff] at h
    obtain⟨a,h1,h2⟩:=h
    simp only[Prod.mk.injEq] at h2
    obtain⟨rfl,rfl⟩:=h2
    split at h1
    ·rename_i s1 fs h3
     split at h1
     ·rename_i h4
      injection h1 with h1
      subst h1
      exact⟨k,s1,fs,h3,h4,hq⟩
     ·cases h1
    ·cases h1
 ·rintro ⟨k,s',fs,h,h2,hq⟩
  refine⟨k + 1, .norm,s', ?_,hq⟩
  unfold z1e at h2
  rw[z4a]
  simp only[region,h]
  rw[if_pos h2]
  rfl
theorem k8r {n:Nat}:K Γ base (.region n os []) ks s Q=O Γ base .plain s.clk os ⟨s.ts,s.h,s.clk + n⟩ ks Q:=by
 have key:∀ R:St→Prop,(∃ k s',z8x (z0o (z4a Γ k) Γ) base s.clk os ⟨s.ts,s.h,s.clk + n⟩=some s'∧R s')=∃ k s' fs,z3g (z0o (z4a Γ k) Γ) Γ base s.clk os ⟨s.ts,s.h,s.clk + n⟩=some (s',fs)∧(Md.plain.adds fs).ok=true∧R s':=by
  intro R
  apply propext
  constructor
  ·rintro ⟨k,s',h,hr⟩
   rw[←q4t (Γ:=Γ),Option.map_eq_some_iff] at h
   obtain⟨⟨s1,fs⟩,h1,rfl⟩:=h
   exact⟨k,s1,fs,h1,by rw[x3z];rfl,hr⟩
  ·rintro ⟨k,s',fs,h,_,hr⟩
   exact⟨k,s',by rw[←q4t (Γ:=Γ),h];rfl,hr⟩
 unfold O
 cases ks with
 | nil=>
   unfold K
   rw[q4c,key]
   simp only[q8f]
 | cons f ks=>
   unfold K
   rw[q4c,key]
   simp only[q8f]
theorem z1b {n:Nat} {p:Nat×Nat} {ps:List (Nat×Nat)}:K Γ base (.region n os (p::ps)) ks s Q=O Γ base (.draw s.h.length os (p::ps) []) s.clk os ⟨s.ts,s.h,s.clk + n⟩ ks Q:=by
 unfold O
 cases ks with
 | nil=>
   unfold K
   rw[q5t]
   simp only[q8f,q5s,List.nil_append,Md.ok]
 | cons f ks=>
   unfold K
   rw[q5t]
   simp only[q8f,q5s,List.nil_append,Md.ok]
theorem v4v {o:AOper} {s1:St} (h:∀ k,stepA (z0o (z4a Γ k) Γ) base g o s=some s1):O Γ base m g (o::os) s ks Q=O Γ base (m.add (x0n Γ base s o s1.h)) (g + 1) os s1 ks Q:=by
 unfold O
 apply propext
 constructor
 ·rintro ⟨k,s',fs,h1,h2,h3⟩
  simp only[z3g,h k,Option.map_eq_some_iff] at h1
  obtain⟨⟨s2,fs2⟩,h4,h5⟩:=h1
  simp only[Prod.mk.injEq] at h5
  obtain⟨rfl,rfl⟩:=h5
  exact⟨k,s2,fs2,h4,h2,h3⟩
 ·rintro ⟨k,s',fs,h1,h2,h3⟩
  exact⟨k,s',x0n Γ base s o s1.h::fs,by simp only[z3g,h k,h1,Option.map_some];rfl,h2,h3⟩
theorem j2l {o:AOper} (h:∀ k,stepA (z0o (z4a Γ k) Γ) base g o s=none):O Γ base m g (o::os) s ks Q=False:=by
 unfold O
 refine propext ⟨?_,False.elim⟩
 rintro ⟨k,s',fs,h1,_⟩
 simp only[z3g,h k] at h1
 cases h1
variable {ts:Tmps} {h:List AObj} {clk:Nat} {dst:Option Nat}
def PO (Γ:AProg) (base:Nat) (x:Option (AV×List AObj)) (f:List Nat×List Nat) (m:Md) (dst:Option Nat) (g:Nat) (os:List AOper) (ts:Tmps) (clk:Nat) (ks:List Kf) (Q:Post):Prop:=
 match x with
 | some (v,h')=>O Γ base (m.add f) (g + 1) os ⟨z9n ts dst v,h',clk⟩ ks Q
 | none=>False
theorem z6u {op:AOp} (hop:op.isCall=false):O Γ base m g (⟨dst,op,none⟩::os) ⟨ts,h,clk⟩ ks Q=PO Γ base (prim h base g ts op) (foot Γ [] [] base ts op) m dst g os ts clk ks Q:=by
 have hf:∀ h',x0n Γ base ⟨ts,h,clk⟩ ⟨dst,op,none⟩ h'=foot Γ [] [] base ts op:=by
  intro h'
  cases op <;> first | rfl | cases hop
 have hs:∀ k,stepA (z0o (z4a Γ k) Γ) base g ⟨dst,op,none⟩ ⟨ts,h,clk⟩=match prim h base g ts op with
   | some (v,h')=>some ⟨z9n ts dst v,h',clk⟩
   | none=>none:=by
  intro k
  cases op <;> first | rfl | cases hop
 unfold PO
 split
 ·rename_i v h' hp
  rw[v4v (s1:=⟨z9n ts dst v,h',clk⟩) (fun k=>by rw[hs k,hp]),hf]
 ·rename_i hp
  exact j2l (fun k=>by rw[hs k,hp])
def gW (x:AV) (b:Bool):Option Bool:=
 match x with
 | .bool y=>some (y==b)
 | .tup []=>some false
 | _=>none
theorem v9h {y b:Bool}:gW (.bool y) b=some (y==b):=(rfl)
theorem w6z {b:Bool}:gW (.tup []) b=some false:=(rfl)
def GO (Γ:AProg) (base:Nat) (w:Option Bool) (op:AOp) (m:Md) (dst:Option Nat) (g:Nat) (os:List AOper) (s:St) (ks:List Kf) (Q:Post):Prop:=
 match w with
 | some true=>O Γ base m g (⟨dst,op,none⟩::os) s ks Q
 | some false=>O Γ base (m.add ([],[])) (g + 1) os ⟨z9n s.ts dst (.tup []),s.h,s.clk⟩ ks Q
 | none=>False
theorem v9i {op:AOp}:GO Γ base (some true) op m dst g os s ks Q=O Γ base m g (⟨dst,op,none⟩::os) s ks Q:=(rfl)
theorem k8s {op:AOp}:GO Γ base (some false) op m dst g os ⟨ts,h,clk⟩ ks Q=O Γ base (m.add ([],[])) (g + 1) os ⟨z9n ts dst (.tup []),h,clk⟩ ks Q:=(rfl)
theorem v9j {op:AOp} {t:Nat} {b:Bool}:O Γ base m g (⟨dst,op,some (t,b)⟩::os) ⟨ts,h,clk⟩ ks Q=GO Γ base (gW (ts t) b) op m dst g os ⟨ts,h,clk⟩ ks Q:=by
 have hw:z6b ts (some (t,b))=gW (ts t) b:=rfl
 unfold GO
 split
 ·rename_i h1
  rw[h1] at hw
  unfold O
  have:∀ k,z3g (z0o (z4a Γ k) Γ) Γ base g (⟨dst,op,some (t,b)⟩::os) ⟨ts,h,clk⟩=z3g (z0o (z4a Γ k) Γ) Γ base g (⟨dst,op,none⟩::os) ⟨ts,h,clk⟩:=by
   intro k
   have h2:z6b ts none=some true:=rfl
   simp only[z3g,stepA,hw,h2]
  simp only[this]
 ·rename_i h1
  rw[h1] at hw
  rw[v4v (s1:=⟨z9n ts dst (.tup []),h,clk⟩) (fun k=>by simp only[stepA,hw])]
  simp only[x0n,hw,Option.some.injEq,Bool.false_eq_true,if_false]
 ·rename_i h1
  rw[h1] at hw
  exact j2l (fun k=>by simp only[stepA,hw])
def CK (Γ:AProg) (base f:Nat) (asx:List AV) (h:List AObj) (clk:Nat) (m:Md) (dst:Option Nat) (g:Nat) (os:List AOper) (ts:Tmps) (ks:List Kf) (Q:Post):Prop:=
 WC Γ f asx h clk fun v h' c=>O Γ base (m.add (z3r (z1a Γ f asx h) h h')) (g + 1) os ⟨z9n ts dst v,h',c⟩ ks Q
theorem k2g {o:AOper} {f:Nat} {asx:List AV} (hs:∀ k,stepA (z0o (z4a Γ k) Γ) base g o ⟨ts,h,clk⟩=match z5g Γ k f asx h clk with
   | some (v,h',c)=>some ⟨z9n ts o.dst v,h',c⟩
   | none=>none) (hf:∀ h',x0n Γ base ⟨ts,h,clk⟩ o h'=z3r (z1a Γ f asx h) h h'):O Γ base m g (o::os) ⟨ts,h,clk⟩ ks Q=CK Γ base f asx h clk m o.dst g os ts ks Q:=by
 unfold CK
 apply propext
 constructor
 ·rintro ⟨k,s',fs,h1,h2,h3⟩
  simp only[z3g,hs k] at h1
  cases hc:z5g Γ k f asx h clk with
  | none=>rw[hc] at h1;cases h1
  | some r=>
    obtain⟨v,h',c⟩:=r
    rw[hc] at h1
    simp only[Option.map_eq_some_iff] at h1
    obtain⟨⟨s2,fs2⟩,h4,h5⟩:=h1
    simp only[Prod.mk.injEq] at h5
    obtain⟨rfl,rfl⟩:=h5
    refine⟨k,v,h',c,hc,k,s2,fs2,h4, ?_,h3⟩
    rw[←hf]
    exact h2
 ·rintro ⟨k,v,h',c,hc,k',s2,fs2,h4,h2,h3⟩
  refine⟨max k k',s2,x0n Γ base ⟨ts,h,clk⟩ o h'::fs2, ?_,by rw[hf];exact h2,h3⟩
  simp only[z3g,hs,x5t (Nat.le_max_left k k') _ _ _ _ _ hc,q2p (q1q (q0g (Nat.le_max_right k k'))) h4,Option.map_some]
  rfl
theorem w7a {f:Nat} {args:List AOpd}:O Γ base m g (⟨dst, .call f args,none⟩::os) ⟨ts,h,clk⟩ ks Q=CK Γ base f (args.map (·.ev ts)) h clk m dst g os ts ks Q:=
 k2g (fun _=>rfl) (fun _=>rfl)
def VK (Γ:AProg) (base:Nat) (x:AV) (asx:List AV) (h:List AObj) (clk:Nat) (m:Md) (dst:Option Nat) (g:Nat) (os:List AOper) (ts:Tmps) (ks:List Kf) (Q:Post):Prop:=
 match x with
 | .fn f cap=>CK Γ base f (asx++cap) h clk m dst g os ts ks Q
 | _=>False
theorem y9o {f:Nat} {cap asx:List AV}:VK Γ base (.fn f cap) asx h clk m dst g os ts ks Q=CK Γ base f (asx++cap) h clk m dst g os ts ks Q:=(rfl)
theorem v9k {x:AOpd} {args:List AOpd}:O Γ base m g (⟨dst, .callv x args,none⟩::os) ⟨ts,h,clk⟩ ks Q=VK Γ base (x.ev ts) (args.map (·.ev ts)) h clk m dst g os ts ks Q:=by
 unfold VK
 split
 ·rename_i f cap hx
  refine k2g (fun k=> ?_) (fun h'=> ?_)
  ·simp only[stepA,z6b,hx]
   rfl
  ·simp only[x0n,z6b,foot,hx,if_true]
 ·rename_i hn
  refine j2l (fun k=> ?_)
  simp only[stepA,z6b]
def Pure (Γ:AProg) (f:Nat) (args:List AV) (v:AV):Prop:=∀ h clk,(∃ k,z5g Γ k f args h clk=some (v,h,clk))∧z1a Γ f args h=[]
theorem z0a {f:Nat} {asx:List AV} {v:AV} (hp:Pure Γ f asx v):CK Γ base f asx h clk m dst g os ts ks Q=O Γ base (m.add ([],[])) (g + 1) os ⟨z9n ts dst v,h,clk⟩ ks Q:=by
 obtain⟨⟨k,hk⟩,hf⟩:=hp h clk
 unfold CK
 apply propext
 constructor
 ·rintro ⟨k',v',h',c,hc,hq⟩
  have:=x0m hk hc
  simp only[Prod.mk.injEq] at this
  obtain⟨rfl,rfl,rfl⟩:=this
  rw[hf] at hq
  exact hq
 ·intro hq
  refine⟨k,v,h,clk,hk, ?_⟩
  rw[hf]
  exact hq
theorem z1f {b:ACode} (I:Nat→St→Prop) (n:Nat) (h0:I n s)
  (hstep:∀ m s (P:Post),I m s→(∀ m' s',m' < m→I m' s'→P .norm s')→(∀ i s',K Γ base (.exit i) ks s' Q→P (.exit i) s')→(∀ s',K Γ base .ret ks s' Q→P .ret s')→K Γ base b [] s P):K Γ base (.loop b) ks s Q:=by
 have key:∀ R:Post,(∀ m s (P:Post),I m s→(∀ m' s',m' < m→I m' s'→P .norm s')→(∀ i s',R (.exit i) s'→P (.exit i) s')→(∀ s',R .ret s'→P .ret s')→W Γ base b s P)→W Γ base (.loop b) s R:=by
  intro R hst
  clear hstep
  induction n using Nat.strongRecOn generalizing s with
  | ind n ih=>
    obtain⟨k,e,s1,h1,h2⟩:=hst n s (fun e s'=>match e with
     | .norm=>∃ m',m' < n∧I m' s'
     | e=>R e s') h0 (fun m' s' hm hi=>⟨m',hm,hi⟩) (fun i s' h=>h) (fun s' h=>h)
    cases e with
    | norm=>
      obtain⟨m',hm,hi⟩:=h2
      obtain⟨k2,e2,s2,h3,h4⟩:=ih m' hm hi
      refine⟨max k k2 + 1,e2,s2, ?_,h4⟩
      rw[z4a]
      simp only[q0g (Nat.le_max_left k k2) _ _ _ _ h1]
      exact q0g (Nat.le_max_right k k2) _ _ _ _ h3
    | exit i=>exact⟨k + 1, .exit i,s1,by rw[z4a];simp only[h1],h2⟩
    | ret=>exact⟨k + 1, .ret,s1,by rw[z4a];simp only[h1],h2⟩
 cases ks with
 | nil=>
   refine key Q fun m s P hi hn he hr=>hstep m s P hi hn (fun i s' h=> ?_) (fun s' h=> ?_)
   ·exact he i s' (by rw[x3y] at h;exact h)
   ·exact hr s' (by rw[x9l] at h;exact h)
 | cons f ks=>
   refine key _ fun m s P hi hn he hr=>hstep m s P hi hn (fun i s' h=> ?_) (fun s' h=> ?_)
   ·refine he i s' ?_
    unfold K at h
    rw[j5f] at h
    exact h
   ·refine hr s' ?_
    unfold K at h
    rw[k8p] at h
    exact h
theorem k8t {x:AOpd} {p q:Nat} {a b:ACode} {f n:Nat} {v:AV} (hx:x.ev s.ts= .bwd f v) (hn:z7l v=some n) (hf:Γ.iters.contains f=true) (J:Nat→List AObj→Nat→Prop)
  (h0:J n s.h s.clk) (hstep:∀ i h c (P:Post),i < n→J (i + 1) h c→(∀ s',J i s'.h s'.clk→P .norm s')→∃ xv,q7u h v i=some xv∧K Γ base a [.seq b] ⟨upd (upd s.ts p (.int .i64 i)) q xv,h,c⟩ P)
  (hQ:∀ h c,J 0 h c→K Γ base .skip ks ⟨s.ts,h,c⟩ Q):K Γ base (.rangeB x p q a b) ks s Q:=by
 have key:∀ i h c,i≤n→J i h c→∃ h' c',J 0 h' c'∧∃ k,q2i (fun s=>match z4a Γ k base a s with
   | some (.norm,s')=>z4a Γ k base b s'
   | r=>r) v s.ts p q i (h,c)=some (h',c'):=by
  intro i
  induction i with
  | zero=>intro h c _ hj;exact⟨h,c,hj,0,rfl⟩
  | succ i ih=>
    intro h c hi hj
    obtain⟨xv,hxv,hw⟩:=hstep i h c (fun e s'=>e= .norm∧J i s'.h s'.clk) (by omega) hj (fun s' h=>⟨rfl,h⟩)
    rw[←v9e] at hw
    obtain⟨k,e,s1,h1,rfl,hj2⟩:=hw
    obtain⟨h',c',h5,k2,h6⟩:=ih s1.h s1.clk (by omega) hj2
    cases k with
    | zero=>cases h1
    | succ k=>
    rw[z4a] at h1
    have hle:∀ {k k':Nat},k≤k'→∀ s r,(match z4a Γ k base a s with
     | some (.norm,s')=>z4a Γ k base b s'
     | r=>r)=some r→(match z4a Γ k' base a s with
     | some (.norm,s')=>z4a Γ k' base b s'
     | r=>r)=some r:=by
     intro k k' hk s r hr
     cases hx:z4a Γ k base a s with
     | none=>rw[hx] at hr;cases hr
     | some q=>
       rw[hx] at hr
       rw[q0g hk _ _ _ _ hx]
       obtain⟨e,s2⟩:=q
       cases e with
       | norm=>exact q0g hk _ _ _ _ hr
       | exit i=>exact hr
       | ret=>exact hr
    refine⟨h',c',h5,max k k2, ?_⟩
    simp only[q2i,hxv]
    rw[hle (Nat.le_max_left k k2) _ _ h1]
    exact q4s (hle (Nat.le_max_right k k2)) h6
 obtain⟨h',c',h1,k,h2⟩:=key n s.h s.clk (Nat.le_refl _) h0
 have:=hQ h' c' h1
 have e1:z4a Γ (k + 1) base (.rangeB x p q a b) s=some (.norm,⟨s.ts,h',c'⟩):=by
  rw[z4a]
  simp only[hx,hn,hf,if_true]
  exact congrArg (Option.map fun m=>(AEx.norm,(⟨s.ts,m.1,m.2⟩:St))) h2
 cases ks with
 | nil=>
   rw[x3x] at this
   exact⟨k + 1,_,_,e1,this⟩
 | cons f ks=>
   unfold K at this
   rw[q8f] at this
   exact⟨k + 1,_,_,e1,this⟩
end
end
section
mutual
def AV.cv:AV→AV
 | .agg cs=> .agg (cvL cs)
 | .tup cs=> .tup (cvL cs)
 | .sl xs _=> .sl xs .no
 | v=>v
def cvL:List AV→List AV
 | []=>[]
 | v::vs=>v.cv::cvL vs
end
mutual
theorem q6v {h:List AObj}:∀ {v:AV},v.obs=[]→conv h v=some v.cv
 | .agg cs,ho=>by
   simp only[conv,AV.cv,q9a (by simpa only[AV.obs] using ho),Option.map_some]
 | .tup cs,ho=>by
   simp only[conv,AV.cv,q9a (by simpa only[AV.obs] using ho),Option.map_some]
 | .ob ..,ho=>by simp[AV.obs] at ho
 | .sl _ _,_=>rfl
 | .undef,_=>rfl
 | .int ..,_=>rfl
 | .bool _,_=>rfl
 | .str _,_=>rfl
 | .ptr ..,_=>rfl
 | .iptr ..,_=>rfl
 | .nilptr,_=>rfl
 | .mp ..,_=>rfl
 | .nilmap,_=>rfl
 | .fn ..,_=>rfl
 | .nilfn,_=>rfl
 | .nilif,_=>rfl
 | .bwd ..,_=>rfl
theorem q9a {h:List AObj}:∀ {vs:List AV},z4r vs=[]→q0j h vs=some (cvL vs)
 | [],_=>rfl
 | v::vs,ho=>by
   simp only[z4r,List.append_eq_nil_iff] at ho
   simp only[q0j,cvL,q6v ho.1,q9a ho.2]
end
theorem z1o {h:List AObj}:∀ {vs:List AV} {i:Nat},z4r vs=[]→z1v h [] i vs=some (cvL vs)
 | [],_,_=>rfl
 | v::vs,i,ho=>by
   simp only[z4r,List.append_eq_nil_iff] at ho
   simp only[z1v,cvL,List.contains_nil,Bool.false_eq_true,if_false,q6v ho.1,z1o ho.2]
theorem z4u:∀ {vs:List AV} {i:Nat},z4r vs=[]→z0u [] i vs=[]
 | [],_,_=>rfl
 | v::vs,i,ho=>by
   simp only[z4r,List.append_eq_nil_iff] at ho
   simp only[z0u,List.contains_nil,Bool.false_eq_true,if_false,ho.1,z4u ho.2,List.append_nil]
theorem z4g {T:List Nat}:∀ {h:List AObj} {k:Nat},(maskFrom T k h).length=h.length
 | [],_=>rfl
 | o::h,k=>by simp[maskFrom,z4g]
theorem x9m {T:List Nat}:∀ {h:List AObj} {k i:Nat},T.contains (k + i)=true→(maskFrom T k h)[i]? =h[i]?
 | [],_,_,_=>rfl
 | o::h,k,0,ht=>by
   rw[Nat.add_zero] at ht
   simp only[maskFrom,ht,if_true,List.getElem?_cons_zero]
 | o::h,k,i + 1,ht=>by
   simp only[maskFrom,List.getElem?_cons_succ]
   exact x9m (by rw[Nat.add_assoc,Nat.add_comm 1 i];exact ht)
theorem z6i:∀ {h h':List AObj} {k:Nat},z0t [] k h h'=h
 | [],[],_=>rfl
 | [],_::_,_=>rfl
 | o::h,[],_=>rfl
 | o::h,o'::h',k=>by simp[z0t,z6i]
theorem x9n {s:Nat}:∀ {h h':List AObj} {k:Nat} {o:AObj},s < h.length→h'[s]? =some o→z0t [k + s] k h h'=h.set s o
 | [],h',k,o,hs,_=>by simp at hs
 | a::h,[],k,o,hs,ho=>by simp at ho
 | a::h,b::h',k,o,hs,ho=>by
   cases s with
   | zero=>
     simp at ho
     subst ho
     have:∀ {h h':List AObj} {j:Nat},k < j→z0t [k] j h h'=h:=by
      intro h
      induction h with
      | nil=>intro h' j _;cases h' <;> rfl
      | cons x h ih=>
        intro h' j hj
        cases h' with
        | nil=>rfl
        | cons y h'=>
          have hne:¬ j=k:=by omega
          simp only[z0t,List.contains_cons,List.contains_nil,Bool.or_false,beq_iff_eq,hne,if_false]
          rw[ih (by omega)]
     simp only[z0t,Nat.add_zero,List.contains_cons,List.contains_nil,Bool.or_false,beq_self_eq_true,if_true,List.set_cons_zero]
     rw[this (by omega)]
   | succ s=>
     have hne:¬ k=k + (s + 1):=by omega
     simp only[z0t,List.contains_cons,List.contains_nil,Bool.or_false,beq_iff_eq,hne,if_false,List.set_cons_succ]
     rw[show k + (s + 1)=k + 1 + s by omega,x9n (by simpa using hs) (by simpa using ho)]
def x9o (T:List Nat) (os:List (Nat×Nat)):Bool:=os.all fun p=> !T.contains p.1
def RV (T:List Nat) (x:Option (List AV)) (R:AV→List AObj→Prop) (h:List AObj):Prop:=
 match x with
 | some vs=>∃ v,conv h (z1l vs)=some v∧v.ids=[]∧x9o T (z1l vs).obs=true∧R v h
 | none=>False
def k2h (T:List Nat) (rs:List ARes) (R:AV→List AObj→Prop):Post:=fun e s=>(∀ i,e≠ .exit i)∧RV T (z1y s.h s.ts rs) R s.h
theorem z0g {T:List Nat} {vs:List AV} {R:AV→List AObj→Prop} {h:List AObj} (ho:(z1l vs).obs=[]) (hi:(z1l vs).cv.ids=[]):RV T (some vs) R h=R (z1l vs).cv h:=by
 apply propext
 constructor
 ·rintro ⟨v,h1,_,_,h2⟩
  rw[q6v ho] at h1
  injection h1 with h1
  subst h1
  exact h2
 ·exact fun hr=>⟨_,q6v ho,hi,by rw[ho];rfl,hr⟩
section
variable {Γ:AProg}
theorem q6w {s:Nat}:∀ {os:List (Nat×Nat)} {h:List AObj},os.all (fun p=> !([s].contains p.1))=true→(freezeAll h os)[s]? =h[s]?
 | [],_,_=>rfl
 | o::os,h,ho=>by
   simp only[List.all_cons,Bool.and_eq_true,Bool.not_eq_true'] at ho
   simp only[freezeAll]
   rw[q6w (by simpa using ho.2)]
   have hne:o.1≠s:=by
    have:=ho.1
    simp at this
    exact this
   split
   ·rw[List.getElem?_set_ne hne]
   ·rfl
theorem x5u {T:List Nat} {rs:List ARes} {R:AV→List AObj→Prop} {e:AEx} {s:St} (h:k2h T rs R e s):(∀ i,e≠ .exit i)∧∃ vs v,z1y s.h s.ts rs=some vs∧conv s.h (z1l vs)=some v∧v.ids=[]∧x9o T (z1l vs).obs=true∧R v s.h:=by
 obtain⟨h1,h2⟩:=h
 refine⟨h1, ?_⟩
 unfold RV at h2
 split at h2
 ·rename_i vs hv
  obtain⟨v,h3,h4,h5,h6⟩:=h2
  exact⟨vs,v,hv,h3,h4,h5,h6⟩
 ·exact h2.elim
theorem k8u {T:List Nat} {rs:List ARes} {R:AV→List AObj→Prop} {ts:Tmps} {h:List AObj} {c:Nat}:k2h T rs R .ret ⟨ts,h,c⟩=RV T (z1y h ts rs) R h:=by
 simp[k2h]
theorem k2i {T:List Nat} {rs:List ARes} {R:AV→List AObj→Prop} {ts:Tmps} {h:List AObj} {c:Nat}:k2h T rs R .norm ⟨ts,h,c⟩=RV T (z1y h ts rs) R h:=by
 simp[k2h]
theorem q6x {f:Nat} {args az:List AV} {h:List AObj} {clk:Nat} {af:AFun} {Q:AV→List AObj→Nat→Prop} (hext:Γ.ext f=none) (hfn:Γ.fn f=some af) (hb:af.byref=[]) (ho:af.owned=false) (hobs:z4r args=[]) (has:cvL args=az) (hids:idsL az=[])
  (hw:∀ (D:List AObj) (B:Nat) (R:AV→List AObj→Prop),D.length=B→(∀ v h',Q v h clk→R v h')→K Γ B af.body [] ⟨q0m az,D++List.replicate af.nslots .dead,clk⟩ (k2h [] af.results fun v h'=>R v h')):WC Γ f args h clk Q:=by
 obtain⟨k,e,s,he,hend⟩:=hw (maskFrom [] 0 h) _ (fun v _=>Q v h clk) rfl (fun _ _ h=>h)
 obtain⟨hne,vs,v,hr,hc,hv,_,hQ⟩:=x5u hend
 rw[z4g] at he
 refine⟨k,v,h,clk, ?_,hQ⟩
 have hp:z1v h af.byref 0 args=some az:=by rw[hb,z1o hobs,has]
 have hl:z0u af.byref 0 args=[]:=by rw[hb];exact z4u hobs
 unfold z5g z0o
 simp only[hext,hfn,hp,hl,freezeAll,hids,reach,he,ho,Bool.false_eq_true,if_false,hr,hc,z6i]
 cases e with
 | exit i=>exact absurd rfl (hne i)
 | norm=>simp[hv]
 | ret=>simp[hv]
theorem q5u {f:Nat} {args az:List AV} {h:List AObj} {af:AFun} (hfn:Γ.fn f=some af) (hb:af.byref=[]) (hobs:z4r args=[]) (has:cvL args=az) (hids:idsL az=[]):z1a Γ f args h=[]:=by
 unfold z1a
 rw[hobs]
 cases Γ.ext f with
 | some _=>rfl
 | none=>
   have hp:z1v h af.byref 0 args=some az:=by rw[hb,z1o hobs,has]
   simp only[hfn,hp,hids,reach]
   rfl
theorem Pure.of {f:Nat} {args az:List AV} {v:AV} {af:AFun} (hext:Γ.ext f=none) (hfn:Γ.fn f=some af) (hb:af.byref=[]) (ho:af.owned=false) (hobs:z4r args=[]) (has:cvL args=az) (hids:idsL az=[])
  (hw:∀ (D:List AObj) (B clk:Nat) (R:AV→List AObj→Prop),D.length=B→(∀ h',R v h')→K Γ B af.body [] ⟨q0m az,D++List.replicate af.nslots .dead,clk⟩ (k2h [] af.results R)):Pure Γ f args v:=fun h clk=>by
 refine⟨?_,q5u hfn hb hobs has hids⟩
 obtain⟨k,v',h',c,he,rfl,rfl,rfl⟩:=q6x (Q:=fun v' h' c'=>v'=v∧h'=h∧c'=clk) hext hfn hb ho hobs has hids (fun D B R hB hR=>hw D B clk R hB (fun h'=>hR v h' ⟨rfl,rfl,rfl⟩))
 exact⟨k,he⟩
theorem j5g {T:List Nat}:∀ {h:List AObj} {k i:Nat},T.contains (k + i)=true→(maskFrom T k h)[i]? =h[i]?
 | [],_,_,_=>rfl
 | o::h,k,0,hc=>by
   rw[Nat.add_zero] at hc
   simp only[maskFrom,hc,if_true,List.getElem?_cons_zero]
 | o::h,k,i + 1,hc=>by
   simp only[maskFrom,List.getElem?_cons_succ]
   exact j5g (by rw[Nat.add_assoc,Nat.add_comm 1 i];exact hc)
theorem w7b {f s:Nat} {args az:List AV} {h:List AObj} {clk:Nat} {af:AFun} {obj:AObj} {Q:AV→List AObj→Nat→Prop} (hext:Γ.ext f=none) (hfn:Γ.fn f=some af) (hb:af.byref=[]) (ho:af.owned=false) (hobs:z4r args=[]) (has:cvL args=az) (hids:idsL az=[s]) (hs:h[s]? =some obj) (hoi:obj.ids=[])
  (hw:∀ (D:List AObj) (B:Nat) (R:AV→List AObj→Prop),D.length=B→D[s]? =some obj→s < B→(∀ v h' o',h'[s]? =some o'→o'.ids=[]→Q v (h.set s o') clk→R v h')→K Γ B af.body [] ⟨q0m az,D++List.replicate af.nslots .dead,clk⟩ (k2h [s] af.results R)):WC Γ f args h clk Q:=by
 have hlt:s < h.length:=by
  rw[List.getElem?_eq_some_iff] at hs
  exact hs.1
 have hp:z1v h af.byref 0 args=some az:=by rw[hb,z1o hobs,has]
 have hl:z0u af.byref 0 args=[]:=by rw[hb];exact z4u hobs
 obtain⟨k,e,s1,he,hend⟩:=hw (maskFrom [s] 0 h) _ (fun v h'=>∃ o',h'[s]? =some o'∧o'.ids=[]∧Q v (h.set s o') clk) rfl (by rw[j5g (by simp)];exact hs) (by rw[z4g];exact hlt) (fun v h' o' h1 h2 h3=>⟨o',h1,h2,h3⟩)
 obtain⟨hne,vs,v,hr,hc,hv,hno,o',h1,h2,hQ⟩:=x5u hend
 rw[z4g] at he
 refine⟨k,v,h.set s o',clk, ?_,hQ⟩
 have hreach:reach h (h.length + 1) [] [s]=[s]:=by
  simp only[reach,List.contains_nil,Bool.false_eq_true,if_false,hs,Option.map_some,hoi,Option.getD_some,List.nil_append]
  cases h.length <;> rfl
 have hfr:(freezeAll s1.h (z1l vs).obs)[s]? =some o':=by
  rw[q6w (by simpa [x9o] using hno),h1]
 have hm:z0t [s] 0 h (freezeAll s1.h (z1l vs).obs)=h.set s o':=by
  have:=x9n (s:=s) (h:=h) (h':=freezeAll s1.h (z1l vs).obs) (k:=0) hlt hfr
  rw[Nat.zero_add] at this
  exact this
 unfold z5g z0o
 simp only[hext,hfn,hp,hl,freezeAll,hids,hreach,he,ho,Bool.false_eq_true,if_false,hr,hc,List.isEmpty_cons,Bool.and_false,hm]
 have hall:((v.ids++(List.map (fun i=>(Option.map AObj.ids (freezeAll s1.h (z1l vs).obs)[i]?).getD []) [s]).flatten).all fun x=>decide (x < h.length))=true:=by
  simp[hv,hfr,h2]
 cases e with
 | exit i=>exact absurd rfl (hne i)
 | norm=>simp only[hall,if_true]
 | ret=>simp only[hall,if_true]
section
variable {h:List AObj} {base g:Nat} {ts:Tmps}
def k2j (h:List AObj):AV→AV→AV→Option (AV×List AObj)
 | .bool t,a,b=>some (if t then a else b,h)
 | _,_,_=>none
def v9l (h:List AObj) (slot g:Nat) (v:AV):Option (AV×List AObj):=
 if v.cells.isEmpty || !v.def? then none else some (.ptr slot g 0 0,h.set slot (.blk g [v] false false 0))
def q2q (h:List AObj) (sz:Option Nat):AV→Option (AV×List AObj)
 | .ptr s g i o=>match z2g h s g with
   | some (es,_,_,_)=>(es[i]?).bind fun e=>(z1x e.cells o sz).map (·,h)
   | none=>none
 | .iptr cs o=>(z1x cs o sz).map (·,h)
 | _=>none
def z9z (h:List AObj) (sz:Nat) (v:AV):AV→Option (AV×List AObj)
 | .ptr s g i o=>match z2g h s g with
   | some (es,row,grow,fz)=>
     match es[i]?,(if row then pub h v else some (v,h)) with
     | some e,some (v',h')=>
       if v'.def? =true∧v'.cells.length=sz∧v'.cells.all AV.one=true∧(row=true→fz≤i∧ !(v.obs.map (·.1)).contains s) then
        (q0k e.cells o v'.cells).map fun cs=>(.undef,h'.set s (.blk g (es.set i (z9s e cs)) row grow fz))
       else none
     | _,_=>none
   | none=>none
 | _=>none
def k2k (h:List AObj) (o:Nat):AV→Option (AV×List AObj)
 | .ptr s g i p=>some (.ptr s g i (p + o),h)
 | .iptr cs p=>some (.iptr cs (p + o),h)
 | _=>none
def k8v (h:List AObj):AV→Option (AV×List AObj)
 | .ptr s g i o=>some (.ptr s g i o,h)
 | .iptr cs o=>some (.iptr cs o,h)
 | _=>none
def k2l (h:List AObj) (o:Nat) (sz:Option Nat):AV→Option (AV×List AObj)
 | .agg cs=>(z1x cs o sz).map (·,h)
 | _=>none
def y8z (h:List AObj) (i:Nat):AV→Option (AV×List AObj)
 | .tup cs=>(cs[i]?).map (·,h)
 | _=>none
def z7j (h:List AObj) (op:BinOp) (t:ETy) (x y:AV):Option (AV×List AObj):=(z4q op t x y).map (·,h)
def k8w (h:List AObj) (t:LenTy) (x:AV):Option (AV×List AObj):=(q0l h t x).map (·,h)
def unV (h:List AObj) (op:UnOp) (x:AV):Option (AV×List AObj):=(k7r op x).map (·,h)
def v9m (h:List AObj) (k:IntKind):AV→Option (AV×List AObj)
 | .int _ n=>some (.int k (k.wrap n),h)
 | _=>none
def z1p (h:List AObj) (esz:Nat):AV→AV→Option (AV×List AObj)
 | .sl xs _, .int _ i=>if 0≤i then match xs[i.toNat]? with
   | some e=>if e.cells.length=esz then some (.iptr e.cells 0,h) else none
   | none=>none
   else none
 | .ob s g off len, .int _ i=>if 0≤i then match z2g h s g with
   | some (es,true,_,_)=>match es[off + i.toNat]? with
     | some e=>if i.toNat < len∧e.cells.length=esz then some (.ptr s g (off + i.toNat) 0,h) else none
     | none=>none
   | _=>none
   else none
 | _,_=>none
def q4u (h:List AObj):AV→AV→Option (AV×List AObj)
 | .str s, .int _ i=>if 0≤i then (s[i.toNat]?).map fun (b:Nat)=>(.int .u8 (Int.ofNat b),h) else none
 | _,_=>none
theorem v4w {c a b:AOpd}:prim h base g ts (.pick c a b)=k2j h (c.ev ts) (a.ev ts) (b.ev ts):=by
 simp only[prim]
 cases c.ev ts <;> simp only[k2j]
 rename_i t
 cases t <;> rfl
theorem v9n {k:Nat} {z:AV}:prim h base g ts (.alloc k z)=v9l h (base + k) g z:=(rfl)
theorem y9p {k:Nat} {x:AOpd}:prim h base g ts (.box k x)=v9l h (base + k) g (x.ev ts):=(rfl)
theorem v9o {z:List AV} {ps:List (Nat×Nat×AOpd)}:prim h base g ts (.build z ps)=(z6e z (ps.map fun p=>(p.1,p.2.1,p.2.2.ev ts))).map fun cs=>(.agg cs,h):=(rfl)
theorem w7c {sz:Option Nat} {a:AOpd}:prim h base g ts (.load sz a)=q2q h sz (a.ev ts):=by
 simp only[prim];cases a.ev ts <;> rfl
theorem v9p {sz:Nat} {a x:AOpd}:prim h base g ts (.store sz a x)=z9z h sz (x.ev ts) (a.ev ts):=by
 simp only[prim];cases a.ev ts <;> rfl
theorem j9b {x:AOpd}:prim h base g ts (.nilCheck x)=k8v h (x.ev ts):=by
 simp only[prim];cases x.ev ts <;> rfl
theorem v9q {op:BinOp} {t:ETy} {x y:AOpd}:prim h base g ts (.binOp op t x y)=z7j h op t (x.ev ts) (y.ev ts):=(rfl)
theorem w7d {op:UnOp} {x:AOpd}:prim h base g ts (.unOp op x)=unV h op (x.ev ts):=(rfl)
theorem w7e {k:IntKind} {x:AOpd}:prim h base g ts (.cInt k x)=v9m h k (x.ev ts):=by
 simp only[prim];cases x.ev ts <;> rfl
theorem j2m {x:AOpd} {o:Nat}:prim h base g ts (.fieldAddr x o)=k2k h o (x.ev ts):=by
 simp only[prim];cases x.ev ts <;> rfl
theorem v9r {x:AOpd} {o:Nat} {sz:Option Nat}:prim h base g ts (.field x o sz)=k2l h o sz (x.ev ts):=by
 simp only[prim];cases x.ev ts <;> rfl
theorem x0p {esz:Nat} {x ix:AOpd}:prim h base g ts (.indexAddr none esz x ix)=z1p h esz (x.ev ts) (ix.ev ts):=by
 simp only[prim];cases ix.ev ts <;> cases x.ev ts <;> simp only[z1p] <;> split <;> rfl
theorem k8x {x ix:AOpd}:prim h base g ts (.index none x ix)=q4u h (x.ev ts) (ix.ev ts):=by
 simp only[prim];cases ix.ev ts <;> cases x.ev ts <;> simp only[q4u] <;> split <;> rfl
theorem j9c {f:Nat} {cap:List AOpd}:prim h base g ts (.makeFunc f cap)=some (.fn f (cap.map (·.ev ts)),h):=(rfl)
theorem k2m {x:AOpd} {i:Nat}:prim h base g ts (.extract x i)=y8z h i (x.ev ts):=by
 simp only[prim];cases x.ev ts <;> rfl
theorem y9q {t:LenTy} {x:AOpd}:prim h base g ts (.len t x)=k8w h t (x.ev ts):=(rfl)
theorem k8y {k esz b:Nat} {mu:Bool} {x y:AOpd}:prim h base g ts (.append k esz b mu x y)=z1k h (base + k) g esz b mu (x.ev ts) (y.ev ts):=(rfl)
theorem k2n {k:Nat}:prim h base g ts (.makeMap k)=some (.mp (base + k) g,h.set (base + k) (.map g [])):=(rfl)
def PP (Γ:AProg) (base:Nat) (x:Option (AV×List AObj)) (dst:Option Nat) (g:Nat) (os:List AOper) (ts:Tmps) (clk:Nat) (ks:List Kf) (Q:Post):Prop:=
 match x with
 | some (v,h')=>O Γ base .plain (g + 1) os ⟨z9n ts dst v,h',clk⟩ ks Q
 | none=>False
section
variable {clk:Nat} {ks:List Kf} {Q:Post} {os:List AOper} {dst:Option Nat} {m:Md}
theorem k2o {v:AV} {d:Nat}:PP Γ base (some (v,h)) (some d) g os ts clk ks Q=O Γ base .plain (g + 1) os ⟨upd ts d v,h,clk⟩ ks Q:=(rfl)
theorem v9s {v:AV}:PP Γ base (some (v,h)) none g os ts clk ks Q=O Γ base .plain (g + 1) os ⟨ts,h,clk⟩ ks Q:=(rfl)
theorem q4d {op:AOp} (hop:op.isCall=false):O Γ base .plain g (⟨dst,op,none⟩::os) ⟨ts,h,clk⟩ ks Q=PP Γ base (prim h base g ts op) dst g os ts clk ks Q:=z6u hop
theorem v4x {x:AOpd} {d:Nat}:O Γ base .plain g (⟨some d, .move x,none⟩::os) ⟨ts,h,clk⟩ ks Q=O Γ base .plain (g + 1) os ⟨upd ts d (x.ev ts),h,clk⟩ ks Q:=z6u rfl
theorem w7f {c a b:AOpd}:O Γ base .plain g (⟨dst,(.pick c a b),none⟩::os) ⟨ts,h,clk⟩ ks Q=PP Γ base (k2j h (c.ev ts) (a.ev ts) (b.ev ts)) dst g os ts clk ks Q:=by rw[q4d rfl,v4w]
theorem v9t {k:Nat} {z:AV}:O Γ base .plain g (⟨dst,(.alloc k z),none⟩::os) ⟨ts,h,clk⟩ ks Q=PP Γ base (v9l h (base + k) g z) dst g os ts clk ks Q:=by rw[q4d rfl,v9n]
theorem y9r {k:Nat} {x:AOpd}:O Γ base .plain g (⟨dst,(.box k x),none⟩::os) ⟨ts,h,clk⟩ ks Q=PP Γ base (v9l h (base + k) g (x.ev ts)) dst g os ts clk ks Q:=by rw[q4d rfl,y9p]
theorem v9u {z:List AV} {ps:List (Nat×Nat×AOpd)}:O Γ base .plain g (⟨dst,(.build z ps),none⟩::os) ⟨ts,h,clk⟩ ks Q=PP Γ base ((z6e z (ps.map fun p=>(p.1,p.2.1,p.2.2.ev ts))).map fun cs=>(.agg cs,h)) dst g os ts clk ks Q:=by rw[q4d rfl,v9o]
theorem w7g {sz:Option Nat} {a:AOpd}:O Γ base .plain g (⟨dst,(.load sz a),none⟩::os) ⟨ts,h,clk⟩ ks Q=PP Γ base (q2q h sz (a.ev ts)) dst g os ts clk ks Q:=by rw[q4d rfl,w7c]
theorem v9v {sz:Nat} {a x:AOpd}:O Γ base .plain g (⟨dst,(.store sz a x),none⟩::os) ⟨ts,h,clk⟩ ks Q=PP Γ base (z9z h sz (x.ev ts) (a.ev ts)) dst g os ts clk ks Q:=by rw[q4d rfl,v9p]
theorem j9d {x:AOpd}:O Γ base .plain g (⟨dst,(.nilCheck x),none⟩::os) ⟨ts,h,clk⟩ ks Q=PP Γ base (k8v h (x.ev ts)) dst g os ts clk ks Q:=by rw[q4d rfl,j9b]
theorem k2p {op:BinOp} {t:ETy} {x y:AOpd}:O Γ base .plain g (⟨dst,(.binOp op t x y),none⟩::os) ⟨ts,h,clk⟩ ks Q=PP Γ base (z7j h op t (x.ev ts) (y.ev ts)) dst g os ts clk ks Q:=by rw[q4d rfl,v9q]
theorem w7h {op:UnOp} {x:AOpd}:O Γ base .plain g (⟨dst,(.unOp op x),none⟩::os) ⟨ts,h,clk⟩ ks Q=PP Γ base (unV h op (x.ev ts)) dst g os ts clk ks Q:=by rw[q4d rfl,w7d]
theorem w7i {k:IntKind} {x:AOpd}:O Γ base .plain g (⟨dst,(.cInt k x),none⟩::os) ⟨ts,h,clk⟩ ks Q=PP Γ base (v9m h k (x.ev ts)) dst g os ts clk ks Q:=by rw[q4d rfl,w7e]
theorem j2n {x:AOpd} {o:Nat}:O Γ base .plain g (⟨dst,(.fieldAddr x o),none⟩::os) ⟨ts,h,clk⟩ ks Q=PP Γ base (k2k h o (x.ev ts)) dst g os ts clk ks Q:=by rw[q4d rfl,j2m]
theorem v9w {x:AOpd} {o:Nat} {sz:Option Nat}:O Γ base .plain g (⟨dst,(.field x o sz),none⟩::os) ⟨ts,h,clk⟩ ks Q=PP Γ base (k2l h o sz (x.ev ts)) dst g os ts clk ks Q:=by rw[q4d rfl,v9r]
theorem j2o {esz:Nat} {x ix:AOpd}:O Γ base .plain g (⟨dst,(.indexAddr none esz x ix),none⟩::os) ⟨ts,h,clk⟩ ks Q=PP Γ base (z1p h esz (x.ev ts) (ix.ev ts)) dst g os ts clk ks Q:=by rw[q4d rfl,x0p]
theorem k8z {x ix:AOpd}:O Γ base .plain g (⟨dst,(.index none x ix),none⟩::os) ⟨ts,h,clk⟩ ks Q=PP Γ base (q4u h (x.ev ts) (ix.ev ts)) dst g os ts clk ks Q:=by rw[q4d rfl,k8x]
theorem j9e {f:Nat} {cap:List AOpd}:O Γ base .plain g (⟨dst,(.makeFunc f cap),none⟩::os) ⟨ts,h,clk⟩ ks Q=PP Γ base (some (.fn f (cap.map (·.ev ts)),h)) dst g os ts clk ks Q:=by rw[q4d rfl,j9c]
theorem k2q {x:AOpd} {i:Nat}:O Γ base .plain g (⟨dst,(.extract x i),none⟩::os) ⟨ts,h,clk⟩ ks Q=PP Γ base (y8z h i (x.ev ts)) dst g os ts clk ks Q:=by rw[q4d rfl,k2m]
theorem y9s {t:LenTy} {x:AOpd}:O Γ base .plain g (⟨dst,(.len t x),none⟩::os) ⟨ts,h,clk⟩ ks Q=PP Γ base (k8w h t (x.ev ts)) dst g os ts clk ks Q:=by rw[q4d rfl,y9q]
theorem k9a {k esz b:Nat} {mu:Bool} {x y:AOpd}:O Γ base .plain g (⟨dst,(.append k esz b mu x y),none⟩::os) ⟨ts,h,clk⟩ ks Q=PP Γ base (z1k h (base + k) g esz b mu (x.ev ts) (y.ev ts)) dst g os ts clk ks Q:=by rw[q4d rfl,k8y]
theorem k2r {k:Nat}:O Γ base .plain g (⟨dst,(.makeMap k),none⟩::os) ⟨ts,h,clk⟩ ks Q=PP Γ base (some (.mp (base + k) g,h.set (base + k) (.map g []))) dst g os ts clk ks Q:=by rw[q4d rfl,k2n]
end
theorem j9f {t:Bool} {a b:AV}:k2j h (.bool t) a b=some (if t then a else b,h):=(rfl)
theorem j9g {sz:Option Nat} {cs:List AV} {o:Nat}:q2q h sz (.iptr cs o)=(z1x cs o sz).map (·,h):=(rfl)
theorem k2s {sz:Option Nat} {s q i o:Nat}:q2q h sz (.ptr s q i o)=match z2g h s q with
 | some (es,_,_,_)=>(es[i]?).bind fun e=>(z1x e.cells o sz).map (·,h)
 | none=>none:=rfl
theorem k2t {s q i o:Nat}:k8v h (.ptr s q i o)=some (.ptr s q i o,h):=(rfl)
theorem k2u {s q i p o:Nat}:k2k h o (.ptr s q i p)=some (.ptr s q i (p + o),h):=(rfl)
theorem j9h {cs:List AV} {p o:Nat}:k2k h o (.iptr cs p)=some (.iptr cs (p + o),h):=(rfl)
theorem j9i {o:Nat} {sz:Option Nat} {cs:List AV}:k2l h o sz (.agg cs)=(z1x cs o sz).map (·,h):=(rfl)
theorem k9b {i:Nat} {cs:List AV}:y8z h i (.tup cs)=(cs[i]?).map (·,h):=(rfl)
theorem k2v {k j:IntKind} {n:Int}:v9m h k (.int j n)=some (.int k (k.wrap n),h):=(rfl)
theorem v9x {xs:List AV} {t:Tip}:k8w h .sl (.sl xs t)=some (.int .i64 xs.length,h):=(rfl)
theorem k9c {s:List Nat}:k8w h .str (.str s)=some (.int .i64 s.length,h):=(rfl)
theorem v9y {s q o l:Nat}:k8w h .sl (.ob s q o l)=some (.int .i64 l,h):=(rfl)
theorem v9z {b:Bool}:unV h .not (.bool b)=some (.bool (!b),h):=(rfl)
theorem w0a {k:IntKind} {n:Int}:unV h .neg (.int k n)=some (.int k (k.wrap (0 - n)),h):=(rfl)
section
variable {t:ETy} {k:IntKind} {a b:Int}
theorem v4y:z7j h .add t (.int k a) (.int k b)=some (.int k (k.wrap (a + b)),h):=by simp[z7j,z4q,z8g]
theorem w7j:z7j h .sub t (.int k a) (.int k b)=some (.int k (k.wrap (a - b)),h):=by simp[z7j,z4q,z8g]
theorem w7k:z7j h .mul t (.int k a) (.int k b)=some (.int k (k.wrap (a * b)),h):=by simp[z7j,z4q,z8g]
theorem q4e (hb:b≠0):z7j h .quo t (.int k a) (.int k b)=some (.int k (k.wrap (a.tdiv b)),h):=by simp[z7j,z4q,z8g,hb]
theorem q2f (hb:b≠0):z7j h .rem t (.int k a) (.int k b)=some (.int k (a.tmod b),h):=by simp[z7j,z4q,z8g,hb]
theorem w7l:z7j h .eql t (.int k a) (.int k b)=some (.bool (decide (a=b)),h):=by simp[z7j,z4q,z8g]
theorem w7m:z7j h .neq t (.int k a) (.int k b)=some (.bool (!decide (a=b)),h):=by simp[z7j,z4q,z8g]
theorem w7n:z7j h .lss t (.int k a) (.int k b)=some (.bool (decide (a < b)),h):=by simp[z7j,z4q,z8g]
theorem w7o:z7j h .leq t (.int k a) (.int k b)=some (.bool (decide (a≤b)),h):=by simp[z7j,z4q,z8g]
theorem w7p:z7j h .gtr t (.int k a) (.int k b)=some (.bool (decide (b < a)),h):=by simp[z7j,z4q,z8g]
theorem w7q:z7j h .geq t (.int k a) (.int k b)=some (.bool (decide (b≤a)),h):=by simp[z7j,z4q,z8g]
end
section
variable {t:ETy} {a b:List Nat}
theorem w7r:z7j h .eql t (.str a) (.str b)=some (.bool (decide (a=b)),h):=by simp[z7j,z4q,q7t]
theorem w7s:z7j h .neq t (.str a) (.str b)=some (.bool (!decide (a=b)),h):=by simp[z7j,z4q,q7t]
theorem w7t:z7j h .lss t (.str a) (.str b)=some (.bool (z4d a b),h):=by simp[z7j,z4q,q7t]
theorem q5v (hl:a.length + b.length < 2 ^ 60):z7j h .add t (.str a) (.str b)=some (.str (a++b),h):=by
 simp only[z7j,z4q,q7t,if_pos hl,Option.map_some]
end
theorem w7u {a b:Bool}:z7j h .eql (.one .bool) (.bool a) (.bool b)=some (.bool (a==b),h):=by simp[z7j,z4q,AV.eqv,AV.eq1]
theorem w7v {a b:Bool}:z7j h .neq (.one .bool) (.bool a) (.bool b)=some (.bool (!(a==b)),h):=by simp[z7j,z4q,AV.eqv,AV.eq1]
theorem z4h {xs:List AV} {t:Tip} {esz i:Nat} {k:IntKind} {e:AV} (hx:xs[i]? =some e) (he:e.cells.length=esz):z1p h esz (.sl xs t) (.int k (i:Int))=some (.iptr e.cells 0,h):=by
 simp only[z1p,Int.natCast_nonneg,if_true,Int.toNat_natCast,hx,he]
theorem x9p {s:List Nat} {i b:Nat} {k:IntKind} (hx:s[i]? =some b):q4u h (.str s) (.int k (i:Int))=some (.int .u8 (b:Int),h):=by
 simp only[q4u,Int.natCast_nonneg,if_true,Int.toNat_natCast,hx,Option.map_some]
 rfl
end
end
theorem z0b {ts:Tmps} {d j:Nat} {v:AV}:upd ts d v j=bif j==d then v else ts j:=by
 unfold upd
 by_cases h:j=d
 ·subst h;simp
 ·have:(j==d)=false:=by simpa using h
  rw[if_neg h,this];rfl
theorem v4z {ts:Tmps} {t:Nat}:(AOpd.tmp t).ev ts=ts t:=(rfl)
theorem j5h {ts:Tmps} {v:AV}:(AOpd.const v).ev ts=v:=(rfl)
theorem z2y {a:AV} {az:List AV}:q0m (a::az) 0=a:=(rfl)
theorem z7o {a:AV} {az:List AV} {n:Nat}:q0m (a::az) (n + 1)=q0m az n:=(rfl)
theorem w0b {h:List AObj} {ts:Tmps}:z1y h ts []=some []:=(rfl)
def w7w (v:AV):Option (List AV)→Option (List AV)
 | some vs=>some (v::vs)
 | none=>none
theorem j9j {v:AV} {vs:List AV}:w7w v (some vs)=some (v::vs):=(rfl)
theorem w0c {h:List AObj} {ts:Tmps} {t:Nat} {rs:List ARes}:z1y h ts (.tmp t::rs)=w7w (ts t) (z1y h ts rs):=by
 simp only[z1y];cases z1y h ts rs <;> rfl
theorem k9d {b:Bool}:(b==true)=b:=by cases b <;> rfl
theorem k2w {b:Bool}:(b==false)= !b:=by cases b <;> rfl
theorem z0c {n:Int} (h1: -9223372036854775808≤n) (h2:n≤9223372036854775807):IntKind.i64.wrap n=n:=IntWalk.i64_in _ ⟨h1,h2⟩
theorem z9c {a d:AV} {l:List AV}:(a::l).getD 0 d=a:=(rfl)
theorem x0q {k:IntKind} {n:Int}:(AV.int k n).cells=[(AV.int k n)]:=(rfl)
theorem j2p {k:IntKind} {n:Int}:(AV.int k n).def? =true:=(rfl)
theorem x5v {k:IntKind} {n:Int}:(AV.int k n).one=true:=(rfl)
theorem x4a {k:IntKind} {n:Int} {cs:List AV}:z9s (AV.int k n) cs=cs.getD 0 .undef:=(rfl)
theorem x4b {b:Bool}:(AV.bool b).cells=[(AV.bool b)]:=(rfl)
theorem j5i {b:Bool}:(AV.bool b).def? =true:=(rfl)
theorem x5w {b:Bool}:(AV.bool b).one=true:=(rfl)
theorem x0r {b:Bool} {cs:List AV}:z9s (AV.bool b) cs=cs.getD 0 .undef:=(rfl)
theorem k2x {s:List Nat}:(AV.str s).cells=[(AV.str s)]:=(rfl)
theorem w0d {s:List Nat}:(AV.str s).def? =true:=(rfl)
theorem k2y {s:List Nat}:(AV.str s).one=true:=(rfl)
theorem z3d {xs:List AV} {t:Tip}:(AV.sl xs t).cells=[(AV.sl xs t)]:=(rfl)
theorem w7x {xs:List AV} {t:Tip}:(AV.sl xs t).def? =true:=(rfl)
theorem w7y {xs:List AV} {t:Tip}:(AV.sl xs t).one=true:=(rfl)
theorem k2z {xs:List AV} {t:Tip} {cs:List AV}:z9s (AV.sl xs t) cs=cs.getD 0 .undef:=(rfl)
theorem k9e {a b c d:Nat}:(AV.ob a b c d).cells=[(AV.ob a b c d)]:=(rfl)
theorem w7z {a b c d:Nat}:(AV.ob a b c d).def? =true:=(rfl)
theorem w8a {a b c d:Nat}:(AV.ob a b c d).one=true:=(rfl)
theorem k3a {a b c d:Nat}:(AV.ptr a b c d).cells=[(AV.ptr a b c d)]:=(rfl)
theorem w0e {a b c d:Nat}:(AV.ptr a b c d).def? =true:=(rfl)
theorem w0f {a b c d:Nat}:(AV.ptr a b c d).one=true:=(rfl)
theorem x9q:(AV.nilptr).cells=[(AV.nilptr)]:=(rfl)
theorem j9k:(AV.nilptr).def? =true:=(rfl)
theorem x5x {cs:List AV}:z9s (AV.nilptr) cs=cs.getD 0 .undef:=(rfl)
theorem k9f {a b:Nat}:(AV.mp a b).cells=[(AV.mp a b)]:=(rfl)
theorem w8b {a b:Nat}:(AV.mp a b).def? =true:=(rfl)
theorem w8c {a b:Nat}:(AV.mp a b).one=true:=(rfl)
theorem x9r:(AV.nilmap).cells=[(AV.nilmap)]:=(rfl)
theorem j9l:(AV.nilmap).def? =true:=(rfl)
theorem x5y {cs:List AV}:z9s (AV.nilmap) cs=cs.getD 0 .undef:=(rfl)
theorem k3b {cs:List AV}:(AV.agg cs).cells=cs:=(rfl)
theorem w0g {cs:List AV}:(AV.agg cs).def? =true:=(rfl)
theorem j9m {xs cs:List AV}:z9s (.agg xs) cs= .agg cs:=(rfl)
attribute [go_sem] x0q j2p x5v x4a x4b j5i x5w x0r k2x w0d k2y z3d w7x w7y k2z k9e w7z w8a k3a w0e w0f x9q j9k x5x k9f w8b w8c x9r j9l x5y k3b w0g j9m
theorem x9s {f:List Nat×List Nat}:Md.plain.add f= .plain:=(rfl)
theorem k9g {N:Nat} {ops:List AOper} {ps:List (Nat×Nat)} {fs:List (List Nat×List Nat)} {f:List Nat×List Nat}:(Md.draw N ops ps fs).add f= .draw N ops ps (fs++[f]):=(rfl)
attribute [go_sem] x9s k9g v9e v9f q6u x9j j8z x9k k2f j2k x3x x3y x9l v9g k8q w6y k8r x0o v9j v9h w6z v9i k8s w7a v9k y9o k2o v9s v4x w7f v9t y9r v9u w7g v9v j9d k2p w7h w7i j2n v9w j2o k8z j9e k2q y9s k9a k2r z0b cond_true cond_false v4z j5h z2y z7o w0b j9j w0c k9d k2w k8u k2i List.map_cons List.map_nil Option.map_some Option.map_none Option.bind_some Option.bind_none if_true if_false j9f j9g k2s k2t k2u j9h j9i k9b k2v v9x k9c v9y v9z w0a v4y w7j w7k w7l w7m w7n w7o w7p w7q w7r w7s w7t w7u w7v z9n
attribute [go_sem_proc] z0 z1 z2 z3 reduceCtorEq
attribute [go_sem_proc ↓] reduceIte
end
end Go.Proofs.YtkollgjffkdliaaGreatDoor.Am
