/- Walking code of the abstract machine: what is left to do is data, so that rewriting never looks into it. -/
import Derived.Test.YtbeooboebfbchaaGreatDoorM01
set_option linter.unusedVariables false
set_option linter.unusedSimpArgs false
namespace Go.Proofs.YtbeooboebfbchaaGreatDoor.Am
open Go
set_option maxRecDepth 100000
section
abbrev Run := Nat → ACode → St → Option (AEx × St)
def RunLe (R R' : Run) : Prop := ∀ b c s r, R b c s = some r → R' b c s = some r
def CallLe (C C' : Caller) : Prop := ∀ f asx h c r, C f asx h c = some r → C' f asx h c = some r
theorem callWith_mono {R R' : Run} (hR : RunLe R R') {Γ : AProg} : CallLe (callWith R Γ) (callWith R' Γ) := by
 intro f args h clk x hc
 unfold callWith at hc ⊢
 split at hc
 · exact hc
 · split at hc
   · cases hc
   · rename_i af haf
     split at hc
     · cases hc
     · rename_i asx has
       dsimp only at hc ⊢
       generalize hE : R h.length af.body ⟨entry asx, maskFrom (reach h (h.length + 1) [] (idsL asx)) 0 (freezeAll h (lentSlots af.byref 0 args)) ++ List.replicate af.nslots .dead, clk⟩ = E at hc
       cases E with
       | none => cases hc
       | some r =>
         rw [hR _ _ _ _ hE]
         exact hc
theorem stepA_mono {C C' : Caller} (hC : CallLe C C') {base g : Nat} {o : AOper} {s r : St} (h : stepA C base g o s = some r) : stepA C' base g o s = some r := by
 obtain ⟨dst, op, guard⟩ := o
 unfold stepA at h ⊢
 split at h
 · rename_i hw
   simp only at h
   cases op
   case call f args =>
     simp only at h ⊢
     split at h
     · rename_i v h' c hc
       rw [hC _ _ _ _ _ hc]
       exact h
     · cases h
   case callv x args =>
     simp only at h ⊢
     split at h
     · split at h
       · rename_i v h' c hc
         rw [hC _ _ _ _ _ hc]
         exact h
       · cases h
     · cases h
   all_goals exact h
 · rename_i hw
   exact h
 · cases h
theorem runOps_mono {C C' : Caller} (hC : CallLe C C') {base : Nat} : ∀ {os : List AOper} {g : Nat} {s r : St}, runOps C base g os s = some r → runOps C' base g os s = some r
 | [], _, _, _, h => h
 | o :: os, g, s, r, h => by
   simp only [runOps] at h ⊢
   split at h
   · rename_i s1 h1
     rw [stepA_mono hC h1]
     exact runOps_mono hC h
   · cases h
theorem runFoot_mono {C C' : Caller} (hC : CallLe C C') {Γ : AProg} {base : Nat} : ∀ {os : List AOper} {g : Nat} {s : St} {r}, runFoot C Γ base g os s = some r → runFoot C' Γ base g os s = some r
 | [], _, _, _, h => h
 | o :: os, g, s, r, h => by
   simp only [runFoot] at h ⊢
   split at h
   · rename_i s1 h1
     rw [stepA_mono hC h1]
     simp only [Option.map_eq_some_iff] at h ⊢
     obtain ⟨a, h2, h3⟩ := h
     exact ⟨a, runFoot_mono hC h2, h3⟩
   · cases h
theorem region_mono {C C' : Caller} (hC : CallLe C C') {Γ : AProg} {base n : Nat} {ops : List AOper} {ps : List (Nat × Nat)} {s r : St} (h : region C Γ base n ops ps s = some r) : region C' Γ base n ops ps s = some r := by
 unfold region at h ⊢
 cases ps with
 | nil => exact runOps_mono hC h
 | cons p ps =>
   simp only at h ⊢
   split at h
   · rename_i s1 fs h1
     rw [runFoot_mono hC h1]
     exact h
   · cases h
theorem rounds_mono {R R' : St → Option (AEx × St)} (hR : ∀ s r, R s = some r → R' s = some r) {v : AV} {ts : Tmps} {p q : Nat} : ∀ {n : Nat} {m r}, rounds R v ts p q n m = some r → rounds R' v ts p q n m = some r
 | 0, _, _, h => h
 | n + 1, m, r, h => by
   simp only [rounds] at h ⊢
   split at h
   · rename_i x hx
     split at h
     · rename_i s hs
       rw [hR _ _ hs]
       exact rounds_mono hR h
     · cases h
   · cases h
theorem exec_succ {Γ : AProg} : ∀ k, RunLe (exec Γ k) (exec Γ (k + 1)) := by
 intro k
 induction k with
 | zero => intro b c s r h; cases h
 | succ k ih =>
   intro b c s r h
   cases c with
   | skip => exact h
   | exit i => exact h
   | ret => exact h
   | bad => exact h
   | region n ops ps =>
     rw [exec] at h ⊢
     simp only [Option.map_eq_some_iff] at h ⊢
     obtain ⟨a, h1, h2⟩ := h
     exact ⟨a, region_mono (callWith_mono ih) h1, h2⟩
   | seq x y =>
     rw [exec] at h ⊢
     split at h
     · rename_i s1 h1
       rw [ih _ _ _ _ h1]
       exact ih _ _ _ _ h
     · rename_i hn
       cases hx : exec Γ k b x s with
       | none => rw [hx] at h; cases h
       | some q =>
         rw [ih _ _ _ _ hx]
         rw [hx] at h
         split
         · rename_i s1 e1
           injection e1 with e1
           exact absurd (e1 ▸ hx) (hn s1)
         · exact h
   | cond x y z =>
     rw [exec] at h ⊢
     split at h
     · exact ih _ _ _ _ h
     · cases h
   | block i x =>
     rw [exec] at h ⊢
     cases hx : exec Γ k b x s with
     | none => rw [hx] at h; cases h
     | some q =>
       rw [ih _ _ _ _ hx]
       rw [hx] at h
       exact h
   | loop x =>
     rw [exec] at h ⊢
     split at h
     · rename_i s1 h1
       rw [ih _ _ _ _ h1]
       exact ih _ _ _ _ h
     · rename_i hn
       cases hx : exec Γ k b x s with
       | none => rw [hx] at h; cases h
       | some q =>
         rw [ih _ _ _ _ hx]
         rw [hx] at h
         split
         · rename_i s1 e1
           injection e1 with e1
           exact absurd (e1 ▸ hx) (hn s1)
         · exact h
   | rangeB x p q a y =>
     rw [exec] at h ⊢
     split at h
     · split at h
       · split at h
         · rename_i f v _ n hn hi
           simp only [hi, if_true]
           simp only [Option.map_eq_some_iff] at h ⊢
           obtain ⟨m, h1, h2⟩ := h
           refine ⟨m, rounds_mono ?_ h1, h2⟩
           intro s r hr
           split at hr
           · rename_i s1 hs
             rw [ih _ _ _ _ hs]
             exact ih _ _ _ _ hr
           · rename_i hn2
             cases hx : exec Γ k b a s with
             | none => rw [hx] at hr; cases hr
             | some q =>
               rw [ih _ _ _ _ hx]
               rw [hx] at hr
               split
               · rename_i s1 e1
                 injection e1 with e1
                 exact absurd (e1 ▸ hx) (hn2 s1)
               · exact hr
         · cases h
       · cases h
     · cases h
theorem exec_le {Γ : AProg} {k k' : Nat} (h : k ≤ k') : RunLe (exec Γ k) (exec Γ k') := by
 induction h with
 | refl => exact fun _ _ _ _ h => h
 | step _ ih => exact fun _ _ _ _ h => exec_succ _ _ _ _ _ (ih _ _ _ _ h)
theorem callA_le {Γ : AProg} {k k' : Nat} (h : k ≤ k') : CallLe (callA Γ k) (callA Γ k') := callWith_mono (exec_le h)
theorem exec_det {Γ : AProg} {k k' b : Nat} {c : ACode} {s : St} {r r'} (h : exec Γ k b c s = some r) (h' : exec Γ k' b c s = some r') : r = r' := by
 have h1 := exec_le (Nat.le_max_left k k') _ _ _ _ h
 have h2 := exec_le (Nat.le_max_right k k') _ _ _ _ h'
 rw [h1] at h2
 injection h2
theorem callA_det {Γ : AProg} {k k' f : Nat} {asx : List AV} {h : List AObj} {c : Nat} {r r'} (h1 : callA Γ k f asx h c = some r) (h2 : callA Γ k' f asx h c = some r') : r = r' := by
 have h1 := callA_le (Nat.le_max_left k k') _ _ _ _ _ h1
 have h2 := callA_le (Nat.le_max_right k k') _ _ _ _ _ h2
 rw [h1] at h2
 injection h2
abbrev Post := AEx → St → Prop
inductive Kf where
 | seq (b : ACode)
 | block (id : Nat)
def Kf.next : Kf → AEx → ACode
 | .seq b, .norm => b
 | .seq _, .exit i => .exit i
 | .seq _, .ret => .ret
 | .block _, .norm => .skip
 | .block i, .exit j => if j = i then .skip else .exit j
 | .block _, .ret => .ret
def Kf.on : Kf → ACode → ACode
 | .seq b, a => .seq a b
 | .block i, a => .block i a
section
variable (Γ : AProg)
def W (base : Nat) (c : ACode) (s : St) (Q : Post) : Prop := ∃ k e s', exec Γ k base c s = some (e, s') ∧ Q e s'
def WC (f : Nat) (args : List AV) (h : List AObj) (clk : Nat) (Q : AV → List AObj → Nat → Prop) : Prop := ∃ k v h' c, callA Γ k f args h clk = some (v, h', c) ∧ Q v h' c
def K (base : Nat) (c : ACode) : List Kf → St → Post → Prop
 | [], s, Q => W Γ base c s Q
 | f :: ks, s, Q => W Γ base c s fun e s' => K base (f.next e) ks s' Q
end
section
variable {Γ : AProg} {base : Nat}
theorem W_skip {s : St} {Q : Post} : W Γ base .skip s Q = Q .norm s := by
 refine propext ⟨?_, fun h => ⟨1, _, _, rfl, h⟩⟩
 rintro ⟨k, e, s', h, hq⟩
 obtain ⟨rfl⟩ := exec_det (k' := 1) h rfl
 exact hq
theorem W_exit {i : Nat} {s : St} {Q : Post} : W Γ base (.exit i) s Q = Q (.exit i) s := by
 refine propext ⟨?_, fun h => ⟨1, _, _, rfl, h⟩⟩
 rintro ⟨k, e, s', h, hq⟩
 obtain ⟨rfl⟩ := exec_det (k' := 1) h rfl
 exact hq
theorem W_ret {s : St} {Q : Post} : W Γ base .ret s Q = Q .ret s := by
 refine propext ⟨?_, fun h => ⟨1, _, _, rfl, h⟩⟩
 rintro ⟨k, e, s', h, hq⟩
 obtain ⟨rfl⟩ := exec_det (k' := 1) h rfl
 exact hq
theorem W.mono {c : ACode} {s : St} {Q Q' : Post} (h : W Γ base c s Q) (hq : ∀ e s', Q e s' → Q' e s') : W Γ base c s Q' := by
 obtain ⟨k, e, s', h1, h2⟩ := h
 exact ⟨k, e, s', h1, hq e s' h2⟩
theorem WC.mono {f : Nat} {args : List AV} {h : List AObj} {clk : Nat} {Q Q' : AV → List AObj → Nat → Prop} (hw : WC Γ f args h clk Q) (hq : ∀ v h' c, Q v h' c → Q' v h' c) : WC Γ f args h clk Q' := by
 obtain ⟨k, v, h', c, h1, h2⟩ := hw
 exact ⟨k, v, h', c, h1, hq v h' c h2⟩
theorem W_on {f : Kf} {c : ACode} {s : St} {Q : Post} : W Γ base (f.on c) s Q = W Γ base c s fun e s' => W Γ base (f.next e) s' Q := by
 apply propext
 constructor
 · rintro ⟨k, e, s', h, hq⟩
   cases k with
   | zero => cases h
   | succ k =>
     cases f with
     | seq b =>
       rw [Kf.on, exec] at h
       split at h
       · rename_i s1 h1
         exact ⟨k, .norm, s1, h1, k, e, s', h, hq⟩
       · rename_i hn
         cases e with
         | norm => exact absurd h (hn s')
         | exit i => exact ⟨k, _, _, h, 1, _, _, rfl, hq⟩
         | ret => exact ⟨k, _, _, h, 1, _, _, rfl, hq⟩
     | block i =>
       rw [Kf.on, exec] at h
       split at h
       · rename_i j s1 h1
         split at h
         · rename_i hj
           injection h with h
           injection h with e1 e2
           subst e1; subst e2
           exact ⟨k, _, _, h1, by simp only [Kf.next, if_pos hj]; exact ⟨1, _, _, rfl, hq⟩⟩
         · rename_i hj
           injection h with h
           injection h with e1 e2
           subst e1; subst e2
           exact ⟨k, _, _, h1, by simp only [Kf.next, if_neg hj]; exact ⟨1, _, _, rfl, hq⟩⟩
       · rename_i hn
         cases e with
         | norm => exact ⟨k, _, _, h, 1, _, _, rfl, hq⟩
         | exit j => exact absurd h (hn j s')
         | ret => exact ⟨k, _, _, h, 1, _, _, rfl, hq⟩
 · rintro ⟨k, e, s1, h1, k', e', s', h2, hq⟩
   have h1' := exec_le (Nat.le_max_left k k') _ _ _ _ h1
   have h2' := exec_le (Nat.le_max_right k k') _ _ _ _ h2
   refine ⟨max k k' + 1, e', s', ?_, hq⟩
   cases f with
   | seq b =>
     rw [Kf.on, exec]
     simp only [h1']
     cases e with
     | norm => exact h2'
     | exit i => exact (congrArg some (exec_det (k' := 1) h2 rfl)).symm
     | ret => exact (congrArg some (exec_det (k' := 1) h2 rfl)).symm
   | block i =>
     rw [Kf.on, exec]
     simp only [h1']
     cases e with
     | norm => exact (congrArg some (exec_det (k' := 1) h2 rfl)).symm
     | exit j =>
       simp only [Kf.next] at h2
       by_cases hj : j = i
       · simp only [if_pos hj] at h2 ⊢
         exact (congrArg some (exec_det (k' := 1) h2 rfl)).symm
       · simp only [if_neg hj] at h2 ⊢
         exact (congrArg some (exec_det (k' := 1) h2 rfl)).symm
     | ret => exact (congrArg some (exec_det (k' := 1) h2 rfl)).symm
variable {ks : List Kf} {s s' : St} {Q : Post} {c c' : ACode}
theorem K_of_W (h : ∀ Q, W Γ base c s Q = W Γ base c' s' Q) : K Γ base c ks s Q = K Γ base c' ks s' Q := by
 cases ks <;> exact h _
theorem K_on {f : Kf} : K Γ base (f.on c) ks s Q = K Γ base c (f :: ks) s Q := by
 cases ks <;> exact W_on
theorem K_seq {a b : ACode} : K Γ base (.seq a b) ks s Q = K Γ base a (.seq b :: ks) s Q := K_on (f := .seq b)
theorem K_block {i : Nat} {a : ACode} : K Γ base (.block i a) ks s Q = K Γ base a (.block i :: ks) s Q := K_on (f := .block i)
theorem K_skip_seq {b : ACode} : K Γ base .skip (.seq b :: ks) s Q = K Γ base b ks s Q := W_skip
theorem K_skip_block {i : Nat} : K Γ base .skip (.block i :: ks) s Q = K Γ base .skip ks s Q := W_skip
theorem K_exit_seq {b : ACode} {i : Nat} : K Γ base (.exit i) (.seq b :: ks) s Q = K Γ base (.exit i) ks s Q := W_exit
theorem K_exit_block {i j : Nat} : K Γ base (.exit j) (.block i :: ks) s Q = K Γ base (if j = i then .skip else .exit j) ks s Q := W_exit
theorem K_ret_seq {b : ACode} : K Γ base .ret (.seq b :: ks) s Q = K Γ base .ret ks s Q := W_ret
theorem K_ret_block {i : Nat} : K Γ base .ret (.block i :: ks) s Q = K Γ base .ret ks s Q := W_ret
theorem K_skip_nil : K Γ base .skip [] s Q = Q .norm s := W_skip
theorem K_exit_nil {i : Nat} : K Γ base (.exit i) [] s Q = Q (.exit i) s := W_exit
theorem K_ret_nil : K Γ base .ret [] s Q = Q .ret s := W_ret
def BK (Γ : AProg) (base : Nat) (x : AV) (a b : ACode) (ks : List Kf) (s : St) (Q : Post) : Prop :=
 match x with
 | .bool true => K Γ base a ks s Q
 | .bool false => K Γ base b ks s Q
 | _ => False
theorem BK_true {a b : ACode} : BK Γ base (.bool true) a b ks s Q = K Γ base a ks s Q := (rfl)
theorem BK_false {a b : ACode} : BK Γ base (.bool false) a b ks s Q = K Γ base b ks s Q := (rfl)
theorem BK_of {x : Bool} {a b : ACode} (ha : x = true → K Γ base a ks s Q) (hb : x = false → K Γ base b ks s Q) : BK Γ base (.bool x) a b ks s Q := by
 cases x
 · exact hb rfl
 · exact ha rfl
theorem W_cond {x : AOpd} {a b : ACode} : W Γ base (.cond x a b) s Q = match x.ev s.ts with
   | .bool true => W Γ base a s Q
   | .bool false => W Γ base b s Q
   | _ => False := by
 apply propext
 have key : ∀ t, x.ev s.ts = .bool t → (W Γ base (.cond x a b) s Q ↔ W Γ base (if t then a else b) s Q) := by
   intro t ht
   constructor
   · rintro ⟨k, e, s', h, hq⟩
     cases k with
     | zero => cases h
     | succ k =>
       rw [exec] at h
       simp only [ht] at h
       exact ⟨k, e, s', h, hq⟩
   · rintro ⟨k, e, s', h, hq⟩
     exact ⟨k + 1, e, s', by rw [exec]; simp only [ht]; exact h, hq⟩
 split
 · rename_i h; exact key true h
 · rename_i h; exact key false h
 · rename_i h1 h2
   refine ⟨?_, False.elim⟩
   rintro ⟨k, e, s', h, hq⟩
   cases k with
   | zero => cases h
   | succ k =>
     rw [exec] at h
     split at h
     · rename_i t ht
       cases t
       · exact h2 ht
       · exact h1 ht
     · cases h
theorem K_cond {x : AOpd} {a b : ACode} : K Γ base (.cond x a b) ks s Q = BK Γ base (x.ev s.ts) a b ks s Q := by
 unfold BK
 cases ks <;> · unfold K; rw [W_cond]
def footOf (Γ : AProg) (base : Nat) (s : St) (o : AOper) (h' : List AObj) : List Nat × List Nat :=
 if wantedA s.ts o.guard = some true then foot Γ s.h h' base s.ts o.op else ([], [])
def drawOk (N : Nat) (ops : List AOper) (fs : List (List Nat × List Nat)) (ps : List (Nat × Nat)) : Bool :=
 ps.all fun p => apart (fs.getD p.1 ([], [])) (fs.getD p.2 ([], [])) && (!(callAt ops p.1 || callAt ops p.2) || ((footAt fs p.1 ++ footAt fs p.2).all (· < N)))
inductive Md where
 | plain
 | draw (N : Nat) (ops : List AOper) (ps : List (Nat × Nat)) (fs : List (List Nat × List Nat))
def Md.add (f : List Nat × List Nat) : Md → Md
 | .plain => .plain
 | .draw N ops ps fs => .draw N ops ps (fs ++ [f])
def Md.adds : Md → List (List Nat × List Nat) → Md
 | m, [] => m
 | m, f :: fs => (m.add f).adds fs
def Md.ok : Md → Bool
 | .plain => true
 | .draw N ops ps fs => drawOk N ops fs ps
def O (Γ : AProg) (base : Nat) (m : Md) (g : Nat) (os : List AOper) (s : St) (ks : List Kf) (Q : Post) : Prop :=
 ∃ k s' fs, runFoot (callWith (exec Γ k) Γ) Γ base g os s = some (s', fs) ∧ (m.adds fs).ok = true ∧ K Γ base .skip ks s' Q
variable {m : Md} {g : Nat} {os : List AOper}
theorem O_nil_plain : O Γ base .plain g [] s ks Q = K Γ base .skip ks s Q := by
 refine propext ⟨?_, fun h => ⟨0, s, [], rfl, rfl, h⟩⟩
 rintro ⟨k, s', fs, h, _, hq⟩
 simp only [runFoot, Option.some.injEq, Prod.mk.injEq] at h
 obtain ⟨rfl, rfl⟩ := h
 exact hq
theorem O_nil_draw {N : Nat} {ops : List AOper} {ps : List (Nat × Nat)} {fs : List (List Nat × List Nat)} : O Γ base (.draw N ops ps fs) g [] s ks Q = (drawOk N ops fs ps = true ∧ K Γ base .skip ks s Q) := by
 refine propext ⟨?_, fun h => ⟨0, s, [], rfl, h.1, h.2⟩⟩
 rintro ⟨k, s', fs', h, h2, hq⟩
 simp only [runFoot, Option.some.injEq, Prod.mk.injEq] at h
 obtain ⟨rfl, rfl⟩ := h
 exact ⟨h2, hq⟩
theorem runFoot_fst {C : Caller} : ∀ {os : List AOper} {g : Nat} {s : St}, (runFoot C Γ base g os s).map (·.1) = runOps C base g os s
 | [], _, _ => rfl
 | o :: os, g, s => by
   simp only [runFoot, runOps]
   split
   · rw [← runFoot_fst]
     simp only [Option.map_map]
     rfl
   · rfl
theorem adds_plain : ∀ {fs : List (List Nat × List Nat)}, (Md.plain.adds fs) = .plain
 | [] => rfl
 | _ :: fs => adds_plain (fs := fs)
theorem adds_draw {N : Nat} {ops : List AOper} {ps : List (Nat × Nat)} : ∀ {fs gs : List (List Nat × List Nat)}, (Md.draw N ops ps gs).adds fs = .draw N ops ps (gs ++ fs)
 | [], gs => by rw [List.append_nil]; rfl
 | f :: fs, gs => by
   simp only [Md.adds, Md.add]
   rw [adds_draw, List.append_assoc]
   rfl
theorem W_region_plain {n : Nat} : W Γ base (.region n os []) s Q = ∃ k s', runOps (callWith (exec Γ k) Γ) base s.clk os ⟨s.ts, s.h, s.clk + n⟩ = some s' ∧ Q .norm s' := by
 apply propext
 constructor
 · rintro ⟨k, e, s', h, hq⟩
   cases k with
   | zero => cases h
   | succ k =>
     rw [exec] at h
     simp only [region, Option.map_eq_some_iff] at h
     obtain ⟨a, h1, h2⟩ := h
     simp only [Prod.mk.injEq] at h2
     obtain ⟨rfl, rfl⟩ := h2
     exact ⟨k, a, h1, hq⟩
 · rintro ⟨k, s', h, hq⟩
   exact ⟨k + 1, .norm, s', by rw [exec]; simp only [region, h, Option.map_some], hq⟩
theorem W_region_draw {n : Nat} {p : Nat × Nat} {ps : List (Nat × Nat)} : W Γ base (.region n os (p :: ps)) s Q = ∃ k s' fs, runFoot (callWith (exec Γ k) Γ) Γ base s.clk os ⟨s.ts, s.h, s.clk + n⟩ = some (s', fs) ∧ drawOk s.h.length os fs (p :: ps) = true ∧ Q .norm s' := by
 apply propext
 constructor
 · rintro ⟨k, e, s', h, hq⟩
   cases k with
   | zero => cases h
   | succ k =>
     rw [exec] at h
     simp only [region, Option.map_eq_some_iff] at h
     obtain ⟨a, h1, h2⟩ := h
     simp only [Prod.mk.injEq] at h2
     obtain ⟨rfl, rfl⟩ := h2
     split at h1
     · rename_i s1 fs h3
       split at h1
       · rename_i h4
         injection h1 with h1
         subst h1
         exact ⟨k, s1, fs, h3, h4, hq⟩
       · cases h1
     · cases h1
 · rintro ⟨k, s', fs, h, h2, hq⟩
   refine ⟨k + 1, .norm, s', ?_, hq⟩
   unfold drawOk at h2
   rw [exec]
   simp only [region, h]
   rw [if_pos h2]
   rfl
theorem K_region {n : Nat} : K Γ base (.region n os []) ks s Q = O Γ base .plain s.clk os ⟨s.ts, s.h, s.clk + n⟩ ks Q := by
 have key : ∀ R : St → Prop, (∃ k s', runOps (callWith (exec Γ k) Γ) base s.clk os ⟨s.ts, s.h, s.clk + n⟩ = some s' ∧ R s') = ∃ k s' fs, runFoot (callWith (exec Γ k) Γ) Γ base s.clk os ⟨s.ts, s.h, s.clk + n⟩ = some (s', fs) ∧ (Md.plain.adds fs).ok = true ∧ R s' := by
   intro R
   apply propext
   constructor
   · rintro ⟨k, s', h, hr⟩
     rw [← runFoot_fst (Γ := Γ), Option.map_eq_some_iff] at h
     obtain ⟨⟨s1, fs⟩, h1, rfl⟩ := h
     exact ⟨k, s1, fs, h1, by rw [adds_plain]; rfl, hr⟩
   · rintro ⟨k, s', fs, h, _, hr⟩
     exact ⟨k, s', by rw [← runFoot_fst (Γ := Γ), h]; rfl, hr⟩
 unfold O
 cases ks with
 | nil =>
   unfold K
   rw [W_region_plain, key]
   simp only [W_skip]
 | cons f ks =>
   unfold K
   rw [W_region_plain, key]
   simp only [W_skip]
theorem K_draw {n : Nat} {p : Nat × Nat} {ps : List (Nat × Nat)} : K Γ base (.region n os (p :: ps)) ks s Q = O Γ base (.draw s.h.length os (p :: ps) []) s.clk os ⟨s.ts, s.h, s.clk + n⟩ ks Q := by
 unfold O
 cases ks with
 | nil =>
   unfold K
   rw [W_region_draw]
   simp only [W_skip, adds_draw, List.nil_append, Md.ok]
 | cons f ks =>
   unfold K
   rw [W_region_draw]
   simp only [W_skip, adds_draw, List.nil_append, Md.ok]
theorem O_step {o : AOper} {s1 : St} (h : ∀ k, stepA (callWith (exec Γ k) Γ) base g o s = some s1) : O Γ base m g (o :: os) s ks Q = O Γ base (m.add (footOf Γ base s o s1.h)) (g + 1) os s1 ks Q := by
 unfold O
 apply propext
 constructor
 · rintro ⟨k, s', fs, h1, h2, h3⟩
   simp only [runFoot, h k, Option.map_eq_some_iff] at h1
   obtain ⟨⟨s2, fs2⟩, h4, h5⟩ := h1
   simp only [Prod.mk.injEq] at h5
   obtain ⟨rfl, rfl⟩ := h5
   exact ⟨k, s2, fs2, h4, h2, h3⟩
 · rintro ⟨k, s', fs, h1, h2, h3⟩
   exact ⟨k, s', footOf Γ base s o s1.h :: fs, by simp only [runFoot, h k, h1, Option.map_some]; rfl, h2, h3⟩
theorem O_stuck {o : AOper} (h : ∀ k, stepA (callWith (exec Γ k) Γ) base g o s = none) : O Γ base m g (o :: os) s ks Q = False := by
 unfold O
 refine propext ⟨?_, False.elim⟩
 rintro ⟨k, s', fs, h1, _⟩
 simp only [runFoot, h k] at h1
 cases h1
variable {ts : Tmps} {h : List AObj} {clk : Nat} {dst : Option Nat}
def PO (Γ : AProg) (base : Nat) (x : Option (AV × List AObj)) (f : List Nat × List Nat) (m : Md) (dst : Option Nat) (g : Nat) (os : List AOper) (ts : Tmps) (clk : Nat) (ks : List Kf) (Q : Post) : Prop :=
 match x with
 | some (v, h') => O Γ base (m.add f) (g + 1) os ⟨putA ts dst v, h', clk⟩ ks Q
 | none => False
theorem PO_some {v : AV} {h' : List AObj} {f : List Nat × List Nat} : PO Γ base (some (v, h')) f m dst g os ts clk ks Q = O Γ base (m.add f) (g + 1) os ⟨putA ts dst v, h', clk⟩ ks Q := (rfl)
theorem O_prim {op : AOp} (hop : op.isCall = false) : O Γ base m g (⟨dst, op, none⟩ :: os) ⟨ts, h, clk⟩ ks Q = PO Γ base (prim h base g ts op) (foot Γ [] [] base ts op) m dst g os ts clk ks Q := by
 have hf : ∀ h', footOf Γ base ⟨ts, h, clk⟩ ⟨dst, op, none⟩ h' = foot Γ [] [] base ts op := by
   intro h'
   cases op <;> first | rfl | cases hop
 have hs : ∀ k, stepA (callWith (exec Γ k) Γ) base g ⟨dst, op, none⟩ ⟨ts, h, clk⟩ = match prim h base g ts op with
     | some (v, h') => some ⟨putA ts dst v, h', clk⟩
     | none => none := by
   intro k
   cases op <;> first | rfl | cases hop
 unfold PO
 split
 · rename_i v h' hp
   rw [O_step (s1 := ⟨putA ts dst v, h', clk⟩) (fun k => by rw [hs k, hp]), hf]
 · rename_i hp
   exact O_stuck (fun k => by rw [hs k, hp])
def gW (x : AV) (b : Bool) : Option Bool :=
 match x with
 | .bool y => some (y == b)
 | .tup [] => some false
 | _ => none
theorem gW_bool {y b : Bool} : gW (.bool y) b = some (y == b) := (rfl)
theorem gW_tup {b : Bool} : gW (.tup []) b = some false := (rfl)
def GO (Γ : AProg) (base : Nat) (w : Option Bool) (op : AOp) (m : Md) (dst : Option Nat) (g : Nat) (os : List AOper) (s : St) (ks : List Kf) (Q : Post) : Prop :=
 match w with
 | some true => O Γ base m g (⟨dst, op, none⟩ :: os) s ks Q
 | some false => O Γ base (m.add ([], [])) (g + 1) os ⟨putA s.ts dst (.tup []), s.h, s.clk⟩ ks Q
 | none => False
theorem GO_true {op : AOp} : GO Γ base (some true) op m dst g os s ks Q = O Γ base m g (⟨dst, op, none⟩ :: os) s ks Q := (rfl)
theorem GO_false {op : AOp} : GO Γ base (some false) op m dst g os ⟨ts, h, clk⟩ ks Q = O Γ base (m.add ([], [])) (g + 1) os ⟨putA ts dst (.tup []), h, clk⟩ ks Q := (rfl)
theorem O_guard {op : AOp} {t : Nat} {b : Bool} : O Γ base m g (⟨dst, op, some (t, b)⟩ :: os) ⟨ts, h, clk⟩ ks Q = GO Γ base (gW (ts t) b) op m dst g os ⟨ts, h, clk⟩ ks Q := by
 have hw : wantedA ts (some (t, b)) = gW (ts t) b := rfl
 unfold GO
 split
 · rename_i h1
   rw [h1] at hw
   unfold O
   have : ∀ k, runFoot (callWith (exec Γ k) Γ) Γ base g (⟨dst, op, some (t, b)⟩ :: os) ⟨ts, h, clk⟩ = runFoot (callWith (exec Γ k) Γ) Γ base g (⟨dst, op, none⟩ :: os) ⟨ts, h, clk⟩ := by
     intro k
     have h2 : wantedA ts none = some true := rfl
     simp only [runFoot, stepA, hw, h2]
   simp only [this]
 · rename_i h1
   rw [h1] at hw
   rw [O_step (s1 := ⟨putA ts dst (.tup []), h, clk⟩) (fun k => by simp only [stepA, hw])]
   simp only [footOf, hw, Option.some.injEq, Bool.false_eq_true, if_false]
 · rename_i h1
   rw [h1] at hw
   exact O_stuck (fun k => by simp only [stepA, hw])
def CK (Γ : AProg) (base f : Nat) (asx : List AV) (h : List AObj) (clk : Nat) (m : Md) (dst : Option Nat) (g : Nat) (os : List AOper) (ts : Tmps) (ks : List Kf) (Q : Post) : Prop :=
 WC Γ f asx h clk fun v h' c => O Γ base (m.add (touched (callFoot Γ f asx h) h h')) (g + 1) os ⟨putA ts dst v, h', c⟩ ks Q
theorem CK_step {o : AOper} {f : Nat} {asx : List AV} (hs : ∀ k, stepA (callWith (exec Γ k) Γ) base g o ⟨ts, h, clk⟩ = match callA Γ k f asx h clk with
     | some (v, h', c) => some ⟨putA ts o.dst v, h', c⟩
     | none => none) (hf : ∀ h', footOf Γ base ⟨ts, h, clk⟩ o h' = touched (callFoot Γ f asx h) h h') : O Γ base m g (o :: os) ⟨ts, h, clk⟩ ks Q = CK Γ base f asx h clk m o.dst g os ts ks Q := by
 unfold CK
 apply propext
 constructor
 · rintro ⟨k, s', fs, h1, h2, h3⟩
   simp only [runFoot, hs k] at h1
   cases hc : callA Γ k f asx h clk with
   | none => rw [hc] at h1; cases h1
   | some r =>
     obtain ⟨v, h', c⟩ := r
     rw [hc] at h1
     simp only [Option.map_eq_some_iff] at h1
     obtain ⟨⟨s2, fs2⟩, h4, h5⟩ := h1
     simp only [Prod.mk.injEq] at h5
     obtain ⟨rfl, rfl⟩ := h5
     refine ⟨k, v, h', c, hc, k, s2, fs2, h4, ?_, h3⟩
     rw [← hf]
     exact h2
 · rintro ⟨k, v, h', c, hc, k', s2, fs2, h4, h2, h3⟩
   refine ⟨max k k', s2, footOf Γ base ⟨ts, h, clk⟩ o h' :: fs2, ?_, by rw [hf]; exact h2, h3⟩
   simp only [runFoot, hs, callA_le (Nat.le_max_left k k') _ _ _ _ _ hc, runFoot_mono (callWith_mono (exec_le (Nat.le_max_right k k'))) h4, Option.map_some]
   rfl
theorem O_call {f : Nat} {args : List AOpd} : O Γ base m g (⟨dst, .call f args, none⟩ :: os) ⟨ts, h, clk⟩ ks Q = CK Γ base f (args.map (·.ev ts)) h clk m dst g os ts ks Q :=
 CK_step (fun _ => rfl) (fun _ => rfl)
def VK (Γ : AProg) (base : Nat) (x : AV) (asx : List AV) (h : List AObj) (clk : Nat) (m : Md) (dst : Option Nat) (g : Nat) (os : List AOper) (ts : Tmps) (ks : List Kf) (Q : Post) : Prop :=
 match x with
 | .fn f cap => CK Γ base f (asx ++ cap) h clk m dst g os ts ks Q
 | _ => False
theorem VK_fn {f : Nat} {cap asx : List AV} : VK Γ base (.fn f cap) asx h clk m dst g os ts ks Q = CK Γ base f (asx ++ cap) h clk m dst g os ts ks Q := (rfl)
theorem O_callv {x : AOpd} {args : List AOpd} : O Γ base m g (⟨dst, .callv x args, none⟩ :: os) ⟨ts, h, clk⟩ ks Q = VK Γ base (x.ev ts) (args.map (·.ev ts)) h clk m dst g os ts ks Q := by
 unfold VK
 split
 · rename_i f cap hx
   refine CK_step (fun k => ?_) (fun h' => ?_)
   · simp only [stepA, wantedA, hx]
     rfl
   · simp only [footOf, wantedA, foot, hx, if_true]
 · rename_i hn
   refine O_stuck (fun k => ?_)
   simp only [stepA, wantedA]
def Pure (Γ : AProg) (f : Nat) (args : List AV) (v : AV) : Prop := ∀ h clk, (∃ k, callA Γ k f args h clk = some (v, h, clk)) ∧ callFoot Γ f args h = []
theorem CK_pure {f : Nat} {asx : List AV} {v : AV} (hp : Pure Γ f asx v) : CK Γ base f asx h clk m dst g os ts ks Q = O Γ base (m.add ([], [])) (g + 1) os ⟨putA ts dst v, h, clk⟩ ks Q := by
 obtain ⟨⟨k, hk⟩, hf⟩ := hp h clk
 unfold CK
 apply propext
 constructor
 · rintro ⟨k', v', h', c, hc, hq⟩
   have := callA_det hk hc
   simp only [Prod.mk.injEq] at this
   obtain ⟨rfl, rfl, rfl⟩ := this
   rw [hf] at hq
   exact hq
 · intro hq
   refine ⟨k, v, h, clk, hk, ?_⟩
   rw [hf]
   exact hq
theorem K_loop {b : ACode} (I : Nat → St → Prop) (n : Nat) (h0 : I n s)
   (hstep : ∀ m s (P : Post), I m s → (∀ m' s', m' < m → I m' s' → P .norm s') → (∀ i s', K Γ base (.exit i) ks s' Q → P (.exit i) s') → (∀ s', K Γ base .ret ks s' Q → P .ret s') → K Γ base b [] s P) : K Γ base (.loop b) ks s Q := by
 have key : ∀ R : Post, (∀ m s (P : Post), I m s → (∀ m' s', m' < m → I m' s' → P .norm s') → (∀ i s', R (.exit i) s' → P (.exit i) s') → (∀ s', R .ret s' → P .ret s') → W Γ base b s P) → W Γ base (.loop b) s R := by
   intro R hst
   clear hstep
   induction n using Nat.strongRecOn generalizing s with
   | ind n ih =>
     obtain ⟨k, e, s1, h1, h2⟩ := hst n s (fun e s' => match e with
       | .norm => ∃ m', m' < n ∧ I m' s'
       | e => R e s') h0 (fun m' s' hm hi => ⟨m', hm, hi⟩) (fun i s' h => h) (fun s' h => h)
     cases e with
     | norm =>
       obtain ⟨m', hm, hi⟩ := h2
       obtain ⟨k2, e2, s2, h3, h4⟩ := ih m' hm hi
       refine ⟨max k k2 + 1, e2, s2, ?_, h4⟩
       rw [exec]
       simp only [exec_le (Nat.le_max_left k k2) _ _ _ _ h1]
       exact exec_le (Nat.le_max_right k k2) _ _ _ _ h3
     | exit i => exact ⟨k + 1, .exit i, s1, by rw [exec]; simp only [h1], h2⟩
     | ret => exact ⟨k + 1, .ret, s1, by rw [exec]; simp only [h1], h2⟩
 cases ks with
 | nil =>
   refine key Q fun m s P hi hn he hr => hstep m s P hi hn (fun i s' h => ?_) (fun s' h => ?_)
   · exact he i s' (by rw [K_exit_nil] at h; exact h)
   · exact hr s' (by rw [K_ret_nil] at h; exact h)
 | cons f ks =>
   refine key _ fun m s P hi hn he hr => hstep m s P hi hn (fun i s' h => ?_) (fun s' h => ?_)
   · refine he i s' ?_
     unfold K at h
     rw [W_exit] at h
     exact h
   · refine hr s' ?_
     unfold K at h
     rw [W_ret] at h
     exact h
theorem K_rangeB {x : AOpd} {p q : Nat} {a b : ACode} {f n : Nat} {v : AV} (hx : x.ev s.ts = .bwd f v) (hn : rowLen v = some n) (hf : Γ.iters.contains f = true) (J : Nat → List AObj → Nat → Prop)
   (h0 : J n s.h s.clk) (hstep : ∀ i h c (P : Post), i < n → J (i + 1) h c → (∀ s', J i s'.h s'.clk → P .norm s') → ∃ xv, elemAt h v i = some xv ∧ K Γ base a [.seq b] ⟨upd (upd s.ts p (.int .i64 i)) q xv, h, c⟩ P)
   (hQ : ∀ h c, J 0 h c → K Γ base .skip ks ⟨s.ts, h, c⟩ Q) : K Γ base (.rangeB x p q a b) ks s Q := by
 have key : ∀ i h c, i ≤ n → J i h c → ∃ h' c', J 0 h' c' ∧ ∃ k, rounds (fun s => match exec Γ k base a s with
     | some (.norm, s') => exec Γ k base b s'
     | r => r) v s.ts p q i (h, c) = some (h', c') := by
   intro i
   induction i with
   | zero => intro h c _ hj; exact ⟨h, c, hj, 0, rfl⟩
   | succ i ih =>
     intro h c hi hj
     obtain ⟨xv, hxv, hw⟩ := hstep i h c (fun e s' => e = .norm ∧ J i s'.h s'.clk) (by omega) hj (fun s' h => ⟨rfl, h⟩)
     rw [← K_seq] at hw
     obtain ⟨k, e, s1, h1, rfl, hj2⟩ := hw
     obtain ⟨h', c', h5, k2, h6⟩ := ih s1.h s1.clk (by omega) hj2
     cases k with
     | zero => cases h1
     | succ k =>
     rw [exec] at h1
     have hle : ∀ {k k' : Nat}, k ≤ k' → ∀ s r, (match exec Γ k base a s with
         | some (.norm, s') => exec Γ k base b s'
         | r => r) = some r → (match exec Γ k' base a s with
         | some (.norm, s') => exec Γ k' base b s'
         | r => r) = some r := by
       intro k k' hk s r hr
       cases hx : exec Γ k base a s with
       | none => rw [hx] at hr; cases hr
       | some q =>
         rw [hx] at hr
         rw [exec_le hk _ _ _ _ hx]
         obtain ⟨e, s2⟩ := q
         cases e with
         | norm => exact exec_le hk _ _ _ _ hr
         | exit i => exact hr
         | ret => exact hr
     refine ⟨h', c', h5, max k k2, ?_⟩
     simp only [rounds, hxv]
     rw [hle (Nat.le_max_left k k2) _ _ h1]
     exact rounds_mono (hle (Nat.le_max_right k k2)) h6
 obtain ⟨h', c', h1, k, h2⟩ := key n s.h s.clk (Nat.le_refl _) h0
 have := hQ h' c' h1
 have e1 : exec Γ (k + 1) base (.rangeB x p q a b) s = some (.norm, ⟨s.ts, h', c'⟩) := by
   rw [exec]
   simp only [hx, hn, hf, if_true]
   exact congrArg (Option.map fun m => (AEx.norm, (⟨s.ts, m.1, m.2⟩ : St))) h2
 cases ks with
 | nil =>
   rw [K_skip_nil] at this
   exact ⟨k + 1, _, _, e1, this⟩
 | cons f ks =>
   unfold K at this
   rw [W_skip] at this
   exact ⟨k + 1, _, _, e1, this⟩
end
end
end Go.Proofs.YtbeooboebfbchaaGreatDoor.Am
