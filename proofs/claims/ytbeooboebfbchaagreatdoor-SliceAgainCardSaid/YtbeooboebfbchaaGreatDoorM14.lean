/- Regions whose order is open: joined. Functions that are told by tables. The functions of this program that loops go over: slices.Backward at whole numbers. -/
import Derived.RangeFuncCalls
import Derived.Maps.RangeWalk
import Derived.IntWalk
import Derived.LoopIn
import Derived.Test.YtbeooboebfbchaaGreatDoorProg
import Derived.Test.YtbeooboebfbchaaGreatDoorM13
set_option linter.unusedVariables false
set_option linter.unusedSimpArgs false
namespace Go.Proofs.YtbeooboebfbchaaGreatDoor.Am
open Go
set_option maxRecDepth 100000
section
variable {P : Program} {G : Ghost} {I : Imm} {h : List AObj} {w : World}
theorem ready_iff {ops : Array Oper} {listed : Array Bool} (hsz : listed.size = ops.size) {i : Nat} : i ∈ Region.ready .any ops listed ↔ i < ops.size ∧ listed.getD i false = false ∧ ∃ o, ops[i]? = some o ∧ ∀ e ∈ o.after.toList, Region.binds .any e = true → listed.getD e.on false = true := by
 unfold Region.ready
 rw [List.mem_filter, List.mem_range]
 constructor
 · rintro ⟨hi, h⟩
   simp only [Bool.and_eq_true, Bool.not_eq_true'] at h
   obtain ⟨h1, h2⟩ := h
   refine ⟨hi, ?_, ops[i], Array.getElem?_eq_getElem hi, fun e he hb => ?_⟩
   · rw [Array.getD_eq_getD_getElem?, Array.getElem?_eq_getElem (by omega)] at h1 ⊢
     exact h1
   · rw [Array.getElem?_eq_getElem hi] at h2
     simp only [Option.map_some, Option.getD_some] at h2
     have h3 := Array.all_eq_true'.1 h2 e (by simpa using he)
     rw [hb] at h3
     simpa using h3
 · rintro ⟨hi, h1, o, ho, h2⟩
   refine ⟨hi, ?_⟩
   simp only [Bool.and_eq_true, Bool.not_eq_true']
   constructor
   · rw [Array.getD_eq_getD_getElem?, Array.getElem?_eq_getElem (by omega)] at h1 ⊢
     exact h1
   · rw [ho]
     simp only [Option.map_some, Option.getD_some]
     refine Array.all_eq_true'.2 fun e he => ?_
     cases hb : Region.binds .any e with
     | false => rfl
     | true => simpa using h2 e (by simpa using he) hb
theorem set_getD {listed : Array Bool} {i j : Nat} (hi : i < listed.size) : (listed.setIfInBounds i true).getD j false = if j = i then true else listed.getD j false := by
 rw [Array.getD_eq_getD_getElem?, Array.getD_eq_getD_getElem?, Array.getElem?_setIfInBounds]
 by_cases h : i = j
 · subst h
   simp [hi]
 · simp [h, Ne.symm h]
theorem Ran.drew {base clk : Nat} {G' : Ghost} {I' : Imm} {h' : List AObj} {w w' : World} {d : Nat} (r : Ran base clk G I h { w with drawn := d } G' I' h' w') : Ran base clk G I h w G' I' h' w' :=
 ⟨r.rel, r.gle, r.ile, r.slots, r.own, ⟨r.fr.os, r.fr.tape, r.fr.output, r.fr.size, r.fr.kept⟩, r.ifr⟩
theorem Rel.drew {w : World} {d : Nat} (r : Rel G I h w) : Rel G I h { w with drawn := d } := r.world fun _ _ hx => hx
theorem any_ok {R : Nat → ACode → St → Option (AEx × St)} {Γ : AProg} {back : Nat → Option Nat} {nt B base clk0 N : Nat} {mu : Bool} {ops : Array Oper} {asx : List AOper} {fs : Nat → List Nat × List Nat}
   (hC : CallOk P (callWith R Γ)) (hB : BackOk P back) (m : MadeAll P back nt mu ops asx) (hedge : edgesOk 0 ops.toList = true)
   (hpair : ∀ i j, i < j → j < ops.size → ((Region.before ops).toList.getD j 0).testBit i = false → PairOk asx fs N i j) :
   ∀ (fuel : Nat) (l : List Nat) (listed : Array Bool) (s s' : St) (G : Ghost) (I : Imm) (w : World) (a : Act), l.length ≤ fuel → listed.size = ops.size → l.Pairwise (· < ·) → (∀ i, i ∈ l ↔ i < ops.size ∧ listed.getD i false = false) →
     (∀ j, listed.getD j false = true → ∀ i, ((Region.before ops).toList.getD j 0).testBit i = true → listed.getD i false = true) →
     Runs (callWith R Γ) Γ base clk0 asx fs l s s' → N ≤ s.h.length → Live nt B G I s a w → Kept (fun g => ∃ k ∈ l, g = clk0 + k) G s.clk → clk0 + ops.size ≤ s.clk → base ≤ s.h.length →
     ∀ (r : Option Nat) (q : Nat) (Q : Exit → Act → World → Prop), Came base nt B clk0 G I s w s' (Q .normal) → wpAnyIn (WFen r) q P .any ops Q fuel listed a w := by
 intro fuel
 induction fuel with
 | zero =>
   intro l listed s s' G I w a hlen hsz hord hmem hdown hruns hN hl hK hclk hb r q Q hQ
   have : l = [] := List.length_eq_zero_iff.1 (by omega)
   subst this
   cases hruns
   refine ⟨List.eq_nil_iff_forall_not_mem.2 fun i hi => ?_, hQ a w G I hl (Ran.refl hl.rel) (fun g hg => hK g (.inr hg)) (Nat.le_refl _) (Nat.le_refl _)⟩
   have := (ready_iff hsz).1 hi
   have := (hmem i).2 ⟨this.1, this.2.1⟩
   simp at this
 | succ fuel ih =>
   intro l listed s s' G I w a hlen hsz hord hmem hdown hruns hN hl hK hclk hb r q Q hQ
   refine ⟨fun hr0 => ?_, fun i hi => ?_⟩
   · have hnil : l = [] := by
       cases l with
       | nil => rfl
       | cons k l =>
         exfalso
         have hk := (hmem k).1 List.mem_cons_self
         have : k ∈ Region.ready .any ops listed := by
           refine (ready_iff hsz).2 ⟨hk.1, hk.2, ops[k], Array.getElem?_eq_getElem hk.1, fun e he hbd => ?_⟩
           have hlt := edgesOk_spec hedge k ops[k] (by simp) e he hbd
           cases hx : listed.getD e.on false with
           | true => rfl
           | false =>
             exfalso
             have hin := (hmem e.on).2 ⟨by omega, hx⟩
             rcases List.mem_cons.1 hin with heq | hin
             · omega
             · have := List.rel_of_pairwise_cons hord hin
               omega
         rw [hr0] at this
         simp at this
     subst hnil
     cases hruns
     exact hQ a w G I hl (Ran.refl hl.rel) (fun g hg => hK g (.inr hg)) (Nat.le_refl _) (Nat.le_refl _)
   · obtain ⟨hi1, hi2, o, ho, hedges⟩ := (ready_iff hsz).1 hi
     have hil := (hmem i).2 ⟨hi1, hi2⟩
     obtain ⟨l1, l2, rfl⟩ := List.append_of_mem hil
     have hbits : ∀ k, ((Region.before ops).toList.getD i 0).testBit k = true → listed.getD k false = true := fun k hk => by
       obtain ⟨o', ho', e, he, hbd, h3⟩ := before_spec hk
       rw [ho] at ho'
       simp only [Option.some.injEq] at ho'
       subst ho'
       have hon := hedges e he hbd
       rcases h3 with rfl | h3
       · exact hon
       · exact hdown e.on hon k h3
     have hlow : ∀ k ∈ l1, k < i := fun k hk => (List.pairwise_append.1 hord).2.2 k hk i List.mem_cons_self
     have hb1 := hruns.bubble (fun k hk => hpair k i (hlow k hk) hi1 (by
       cases hx : ((Region.before ops).toList.getD i 0).testBit k with
       | false => rfl
       | true =>
         have h1 := hbits k hx
         have h2 := ((hmem k).1 (List.mem_append_left _ hk)).2
         rw [h1] at h2
         simp at h2)) hN
     cases hb1 with
     | cons hao hst hft hrest =>
       rename_i ao s1
       obtain ⟨ao', n, hao', hm⟩ := m.made i o ho
       rw [hao] at hao'
       simp only [Option.some.injEq] at hao'
       subst hao'
       have hnd : l1 ++ i :: l2 = l1 ++ i :: l2 := rfl
       have hne : ∀ k ∈ l1 ++ l2, k ≠ i := fun k hk he => by
         subst he
         rcases List.mem_append.1 hk with hk | hk
         · exact Nat.lt_irrefl _ (hlow k hk)
         · have := (List.pairwise_append.1 hord).2.1
           exact Nat.lt_irrefl _ (List.rel_of_pairwise_cons this hk)
       have hmem' : ∀ k, k ∈ l1 ++ l2 ↔ k ∈ l1 ++ i :: l2 ∧ k ≠ i := fun k => by
         constructor
         · intro hk
           refine ⟨?_, hne k hk⟩
           simp only [List.mem_append, List.mem_cons] at hk ⊢
           rcases hk with hk | hk
           · exact .inl hk
           · exact .inr (.inr hk)
         · rintro ⟨hk, hki⟩
           simp only [List.mem_append, List.mem_cons] at hk ⊢
           rcases hk with hk | hk | hk
           · exact .inl hk
           · exact absurd hk hki
           · exact .inr hk
       have hstep := step_in (r := r) (k := q) (Q := Q) (K := wpAnyIn (WFen r) q P .any ops Q fuel (listed.setIfInBounds i true)) (lo := clk0) (gen := clk0 + i) (U := fun g => ∃ k ∈ l1 ++ i :: l2, g = clk0 + k) hC hB hm hl
         (fun j t hj => Nat.lt_of_lt_of_le (m.dst j t hj) hl.size) hst ⟨i, hil, rfl⟩ (fun g hg => by
           obtain ⟨k, hk, rfl⟩ := hg
           have := ((hmem k).1 hk).1
           omega) hK (by omega) (by omega) hb (fun a1 w1 G1 I1 hl1 hran hK1 hc1 hlen1 hsz1 => by
           refine ih (l1 ++ l2) (listed.setIfInBounds i true) s1 s' G1 I1 w1 a1 ?_ (by rw [Array.size_setIfInBounds]; exact hsz) ?_ (fun k => ?_) (fun j hj k hk => ?_) hrest (by omega) hl1 (fun g hg => hK1 g ?_) (by omega) (by omega) r q Q fun a2 w2 G2 I2 hl2 hran2 hf2 hc2 hlen2 => ?_
           · simp only [List.length_append, List.length_cons] at hlen ⊢
             omega
           · refine List.Pairwise.sublist ?_ hord
             exact List.Sublist.append_left (List.sublist_cons_self _ _) _
           · rw [hmem' k, hmem k, set_getD (by omega)]
             by_cases hki : k = i
             · simp [hki]
             · simp [hki]
           · rw [set_getD (by omega)] at hj ⊢
             split
             · rfl
             · split at hj
               · rename_i hji
                 subst hji
                 exact hbits k hk
               · exact hdown j hj k hk
           · rcases hg with ⟨k, hk, rfl⟩ | hg
             · refine .inl ⟨⟨k, ((hmem' k).1 hk).1, rfl⟩, ?_⟩
               have := hne k hk
               omega
             · exact .inr hg
           · exact hQ a2 w2 G2 I2 hl2 (hran.trans hran2 (Nat.le_refl _) (Nat.le_refl _)) hf2 (by omega) (by omega))
       unfold wpOpIn
       rw [ho]
       simp only
       split
       · rename_i hw
         rw [if_pos hw] at hstep
         exact hstep
       · rename_i hw
         rw [if_neg hw] at hstep
         exact hstep
theorem draw_ok {back : Nat → Option Nat} (hm : P.follows .mixedOrders = true) : DrawOk P back := by
 intro Γ k nt B base mu id ops asx hC hB m hind hcalls hedge s s' G I w a hr hl hf hb r q Q hQ
 refine wpIn_region_any hm ?_
 have hlen := m.len
 have start : ∃ fs : Nat → List Nat × List Nat, Runs (callWith (exec Γ k) Γ) Γ base s.clk asx fs (List.range' 0 asx.length) { s with clk := s.clk + asx.length } s' ∧
     ∀ i j, i < j → j < ops.size → ((Region.before ops).toList.getD j 0).testBit i = false → (i, j) ∈ pairsOf (Region.before ops).toList asx 0 asx → Apart (fs i) (fs j) ∧ (callAt asx i = true ∨ callAt asx j = true → (∀ x ∈ (fs i).1 ++ (fs i).2, x < s.h.length) ∧ (∀ x ∈ (fs j).1 ++ (fs j).2, x < s.h.length)) := by
   unfold region at hr
   split at hr
   · rename_i hps
     obtain ⟨l, hl'⟩ := runFoot_of_ops (Γ := Γ) hr
     refine ⟨fun i => l.getD i ([], []), (runs_of_foot (j := 0) rfl (by simpa using hl') fun i f hi => by simp [List.getD, hi]).1, fun i j _ _ _ hmem => ?_⟩
     rw [hps] at hmem
     simp at hmem
   · split at hr
     · rename_i s1 l hl'
       split at hr
       · rename_i hchk
         simp only [Option.some.injEq] at hr
         subst hr
         obtain ⟨hR, hL⟩ := runs_of_foot (fs := fun i => l.getD i ([], [])) (j := 0) rfl (by simpa using hl') fun i f hi => by simp [List.getD, hi]
         refine ⟨fun i => l.getD i ([], []), hR, fun i j hij hj _ hmem => ?_⟩
         have hc := List.all_eq_true.1 hchk (i, j) hmem
         simp only [Bool.and_eq_true, Bool.or_eq_true, Bool.not_eq_true', Bool.or_eq_false_iff] at hc
         refine ⟨apart_spec hc.1, fun hcall => ?_⟩
         rcases hc.2 with h1 | h1
         · rcases hcall with h2 | h2
           · rw [h1.1] at h2; simp at h2
           · rw [h1.2] at h2; simp at h2
         · refine ⟨fun x hx => ?_, fun x hx => ?_⟩
           · simpa using List.all_eq_true.1 h1 x (List.mem_append_left _ hx)
           · simpa using List.all_eq_true.1 h1 x (List.mem_append_right _ hx)
       · simp at hr
     · simp at hr
 obtain ⟨fs, hruns, hap⟩ := start
 have hat : ∀ i, i < ops.size → ∃ o, asx[i]? = some o := fun i hi => ⟨asx[i], List.getElem?_eq_getElem (by omega)⟩
 have hfoot : ∀ i o, i < ops.size → asx[i]? = some o → ∃ s1 s2, fs i = footOfK Γ base o s1 s2 := fun i o hi ho => by
   obtain ⟨o', s1, s2, ho', h⟩ := hruns.foot i (by simp only [List.mem_range'_1]; omega)
   rw [ho] at ho'
   simp only [Option.some.injEq] at ho'
   subst ho'
   exact ⟨s1, s2, h⟩
 have hpair : ∀ i j, i < j → j < ops.size → ((Region.before ops).toList.getD j 0).testBit i = false → PairOk asx fs s.h.length i j := by
   intro i j hij hj hbit
   obtain ⟨x, hx⟩ := hat i (by omega)
   obtain ⟨y, hy⟩ := hat j hj
   obtain ⟨x1, x2, hfx⟩ := hfoot i x (by omega) hx
   obtain ⟨y1, y2, hfy⟩ := hfoot j y hj hy
   have hI : indep x y = true := by
     have := indepOk_spec hind (q := j) (o := y) hy
     rw [Nat.zero_add] at this
     exact indepAt_spec this (p := i) hx (by omega) (by rw [Nat.zero_add]; exact hbit)
   have mk : (x.op.isCall = false ∨ y.op.isCall = false) → Apart (fs i) (fs j) → (y.op.isCall = true → ∀ z ∈ (fs i).1 ++ (fs i).2, z < s.h.length) → (x.op.isCall = true → ∀ z ∈ (fs j).1 ++ (fs j).2, z < s.h.length) → PairOk asx fs s.h.length i j := fun h1 h2 h3 h4 => by
     refine ⟨fun a b ha hb => ?_, fun a b ha hb => ?_, h2, fun b hb => ?_, fun a ha => ?_⟩
     · rw [hx] at ha; rw [hy] at hb
       simp only [Option.some.injEq] at ha hb
       subst ha hb
       exact hI
     · rw [hx] at ha; rw [hy] at hb
       simp only [Option.some.injEq] at ha hb
       subst ha hb
       exact h1
     · rw [hy] at hb
       simp only [Option.some.injEq] at hb
       subst hb
       exact h3
     · rw [hx] at ha
       simp only [Option.some.injEq] at ha
       subst ha
       exact h4
   by_cases c1 : classOf x.op = 0
   · have he : fs i = ([], []) := by rw [hfx]; exact footOf_class0 c1
     refine mk (.inl ?_) (by rw [he]; exact ⟨fun s hs => by simp at hs, fun s hs => by simp at hs, fun s _ => by simp⟩) (fun _ z hz => by rw [he] at hz; simp at hz) (fun hc => by rw [isCall_class hc] at c1; simp at c1)
     cases hc : x.op.isCall with
     | false => rfl
     | true => rw [isCall_class hc] at c1; simp at c1
   by_cases c2 : classOf y.op = 0
   · have he : fs j = ([], []) := by rw [hfy]; exact footOf_class0 c2
     refine mk (.inr ?_) (by rw [he]; exact ⟨fun s _ => by simp, fun s _ => by simp, fun s hs => by simp at hs⟩) (fun hc => by rw [isCall_class hc] at c2; simp at c2) (fun _ z hz => by rw [he] at hz; simp at hz)
     cases hc : y.op.isCall with
     | false => rfl
     | true => rw [isCall_class hc] at c2; simp at c2
   by_cases c3 : classOf x.op = 2 ∨ classOf y.op = 2
   · have hmem : (i, j) ∈ pairsOf (Region.before ops).toList asx 0 asx := by
       refine mem_pairsOf (q := j) (o := y) hy ?_
       rw [Nat.zero_add]
       have := mem_pairsAt (bj := (Region.before ops).toList.getD j 0) (j := j) (cj := classOf y.op) (os := asx) (i0 := 0) (p := i) (o := x) hx (by omega) (by rw [Nat.zero_add]; exact hbit) c1 c2 c3
       rwa [Nat.zero_add] at this
     obtain ⟨h1, h2⟩ := hap i j hij hj hbit hmem
     have hci : x.op.isCall = true → callAt asx i = true := fun hc => by simp [callAt, hx, hc]
     have hcj : y.op.isCall = true → callAt asx j = true := fun hc => by simp [callAt, hy, hc]
     refine mk ?_ h1 (fun hc => (h2 (.inr (hcj hc))).1) (fun hc => (h2 (.inl (hci hc))).2)
     have := List.all_eq_true.1 hcalls (i, j) hmem
     simp only [hx, hy, Option.map_some, Option.getD_some, Bool.not_eq_true', Bool.and_eq_false_iff] at this
     exact this
   · have e1 : classOf x.op = 1 := by rcases classOf_le x.op with h | h | h <;> omega
     have e2 : classOf y.op = 1 := by rcases classOf_le y.op with h | h | h <;> omega
     have g1 : (fs i).2 = [] := by rw [hfx]; exact footOf_class1 e1
     have g2 : (fs j).2 = [] := by rw [hfy]; exact footOf_class1 e2
     refine mk (.inl ?_) ⟨fun s hs => by rw [g1] at hs; simp at hs, fun s hs => by rw [g1] at hs; simp at hs, fun s hs => by rw [g2] at hs; simp at hs⟩ (fun hc => by rw [isCall_class hc] at e2; simp at e2) (fun hc => by rw [isCall_class hc] at e1; simp at e1)
     cases hc : x.op.isCall with
     | false => rfl
     | true => rw [isCall_class hc] at e1; simp at e1
 have hl' : Live nt B G I { s with clk := s.clk + asx.length } a { w with drawn := w.drawn + 1 } := ⟨hl.bnd, hl.dfr, hl.size, hl.tmps, hl.rel.drew⟩
 refine any_ok (N := s.h.length) (clk0 := s.clk) hC hB m hedge hpair ops.size (List.range' 0 asx.length) (Array.replicate ops.size false) _ s' G I _ a (by simp [hlen]) (by simp) ?_ (fun i => ?_) (fun j hj => ?_) hruns (Nat.le_refl _) hl' (fun g hg => hf g ?_) (by
     show s.clk + ops.size ≤ s.clk + asx.length
     omega) hb r q Q fun a' w' G' I' h1 h2 h3 h4 h5 => hQ a' w' G' I' h1 h2.drew h3 (by
     have : s.clk + asx.length ≤ s'.clk := h4
     omega) h5
 · exact List.pairwise_lt_range'
 · rw [List.mem_range'_1, hlen]
   have : (Array.replicate ops.size false).getD i false = false := by
     rw [Array.getD_eq_getD_getElem?, Array.getElem?_replicate]
     split <;> rfl
   simp [this]
 · have : (Array.replicate ops.size false).getD j false = false := by
     rw [Array.getD_eq_getD_getElem?, Array.getElem?_replicate]
     split <;> rfl
   rw [this] at hj
   simp at hj
 · rcases hg with ⟨k, _, rfl⟩ | hg
   · omega
   · have : s.clk + asx.length ≤ g := hg
     omega
end
theorem keeps_zero {G G' : Ghost} : Keeps G G' 0 := by
 intro g i h1 h2
 exact absurd h2 (Nat.not_lt_zero _)
def told (P : Program) (f : Nat) (sem : List AV → Option AV) : Prop := ∀ az v, sem az = some v → ∀ G I w (cargs : Array Value), VRL G I az cargs.toList → (∀ b o v, I b o = some v → w.cell? ⟨b, o, none⟩ = some v) → (∃ clk, Fresh G clk) → CallRes P f cargs w (ExtPost G I w v)
def chk (Γ : AProg) (k f : Nat) (p : List AV × AV) : Bool := (idsL p.1).isEmpty && p.2.ids.isEmpty && match callA Γ k f p.1 [] 0 with
 | some (w, _, _) => w.beq p.2
 | none => false
theorem told_tab {P : Program} {Γ : AProg} {back : Nat → Option Nat} (hΓ : ProgOk P back Γ) (hB : BackOk P back) (hD : DrawOk P back) (hR : IterAll P Γ) {f : Nat} {tab : List (List AV × AV)} (h : ∀ p ∈ tab, ∃ k, chk Γ k f p = true) : told P f (inTab tab) := by
 intro az v hv G I w cargs hargs himm _
 unfold inTab at hv
 rw [Option.map_eq_some_iff] at hv
 obtain ⟨p, hp, rfl⟩ := hv
 have hbeq := List.find?_some hp
 have haz : p.1 = az := beqL_sound hbeq
 obtain ⟨k, hk⟩ := h p (List.mem_of_find?_eq_some hp)
 simp only [chk, Bool.and_eq_true, List.isEmpty_iff] at hk
 obtain ⟨⟨h1, h2⟩, h3⟩ := hk
 split at h3
 · rename_i v' h' clk hc
   have hvv := beq_sound h3
   subst hvv
   subst haz
   have hargs0 : VRL (fun _ => none) I p.1 cargs.toList := VRL.keep (n := 0) keeps_zero (by rw [h1]; simp) hargs
   intro o a next Q hn
   refine (sound_call hΓ hB hD hR k f p.1 [] 0 p.2 h' clk hc (fun _ => none) I w cargs hargs0 ⟨himm, fun i o ho => by simp at ho, fun i j oi oj b hi => by simp at hi⟩ (fun _ _ => rfl)) o a next Q fun cv w' he => hn cv w' ?_
   obtain ⟨G', I', hv', hran, _⟩ := he
   refine ⟨I', hran.ile, VR.keep (n := 0) keeps_zero (by rw [h2]; simp) hv', fun b y hy => ?_, hran.fr.os, hran.fr.tape, hran.fr.output, hran.fr.size, fun b o v hv => ?_⟩
   · have hb : b < w.heap.size := (Array.getElem?_eq_some_iff.1 hy).1
     rw [hran.fr.kept b hb fun i o hi => by simp at hi]
     exact hy
   · rcases Nat.lt_or_ge b w.heap.size with hb | hb
     · exact .inl (hran.ifr b hb (fun i o hi => by simp at hi) o v hv)
     · exact .inr ⟨hb, hran.rel.imm b o v hv⟩
 · cases h3
end Go.Proofs.YtbeooboebfbchaaGreatDoor.Am
namespace Go.Proofs.YtbeooboebfbchaaGreatDoor
open Go Go.RowKit
namespace Am
set_option maxRecDepth 100000 in
set_option maxHeartbeats 1000000 in
theorem iter_ints_in (F : Fence) (m : Nat) (hF : F.fn 259) (hro : F.round = none) (hm : 1 ≤ m) (l b n c : Nat) (A : Option Addr) (J : Nat → World → Prop) (W : World) (hn : n < 2 ^ 48)
   (hcap : ∀ i W, J i W → W.cell? ⟨b, 0, none⟩ = some (.slice A n c))
   (hround : ∀ i W, i < n → J (i + 1) W → ∃ bA oA vx, A = some ⟨bA, oA, none⟩ ∧ n ≤ c ∧ W.cell? ⟨bA, oA + i, none⟩ = some vx ∧ YieldAt F (m - 1) Tryz.prog l #[.int .i64 i, vx] W fun e W' => e = .returned (.bool true) ∧ J i W')
   (h0 : J n W) : CallsIn F m Tryz.prog 259 #[.func (.yield l) #[] #[], .pointer (some ⟨b, 0, none⟩)] W fun e W' => (∃ v, e = .returned v) ∧ J 0 W' := by
 have hc := hcap _ _ h0
 refine callsIn_of_wp Tryz.func259 rfl hF ?_ hro
 simp only [Tryz.ntmps259, List.size_toArray, List.length_cons, List.length_nil, Nat.reduceAdd, Nat.reduceSub, Array.replicate_succ, Array.replicate_zero, List.push_toArray, List.append_toArray, List.nil_append, List.cons_append]
 have hw1 : IntKind.i64.wrap ((n : Int) - 1) = (n : Int) - 1 := IntWalk.i64_in _ (by omega)
 gi_wp2
 gi_loopw [3] (fun v wr => ∃ k : Nat, k ≤ n ∧ v = .int .i64 ((k : Int) - 1) ∧ J k wr) (fun v _ => (intOf v + 1).toNat)
 case atStart => exact ⟨n, Nat.le_refl _, rfl, h0⟩
 case round =>
   obtain ⟨k, hk, rfl, hJ⟩ := hrel
   cases k with
   | zero =>
     gi_wp2
     go_end0
     exact ⟨⟨_, rfl⟩, hJ⟩
   | succ i =>
     have he : (((i + 1 : Nat) : Int) - 1) = (i : Int) := by omega
     rw [he]
     have hw2 : IntKind.i64.wrap ((i : Int) - 1) = (i : Int) - 1 := IntWalk.i64_in _ (by omega)
     obtain ⟨bA, oA, vx, rfl, hnc, hcell, fn, tmps, assign, body, hy, hR⟩ := hround i _ (by omega) hJ
     have hc2 := hcap _ _ hJ
     have hlt : (i : Int) < (n : Int) := by omega
     clear he hround
     gi_wp2
     refine hR.mono ?_
     rintro e W3 ⟨rfl, hJ3⟩
     gi_wp2
     go_roundw
     case rel => exact ⟨i, by omega, rfl, hJ3⟩
     case measure => simp [intOf]
theorem iter_ints : IterOk Tryz.prog 259 := fun q l b n c A J W hn hcap _ hround h0 =>
 iter_ints_in (WFen none) (q + 1) trivial rfl (Nat.le_add_left 1 q) l b n c A J W hn hcap hround h0
theorem back_ints {G : Ghost} {I : Imm} {w : World} {x : AV} {cx : Value} (hr : (rowLen x).isSome = true) (hx : VR G I x cx) (himm : ∀ b o v, I b o = some v → w.cell? ⟨b, o, none⟩ = some v) : CallRes Tryz.prog 251 #[cx] w fun cv w' => ∃ I', ILe I I' ∧ VR G I' (.bwd 259 x) cv ∧ (∀ (b : Nat) (y : Obj), w.heap[b]? = some y → w'.heap[b]? = some y) ∧ w'.os = w.os ∧ w'.tape = w.tape ∧ w'.output = w.output ∧ w.heap.size ≤ w'.heap.size ∧
     ∀ b o v, I' b o = some v → I b o = some v ∨ (w.heap.size ≤ b ∧ w'.cell? ⟨b, o, none⟩ = some v) := by
 have hlo : ∀ b o v, I b o = some v → b < w.heap.size := fun b o v hv => by
   have hc := himm b o v hv
   unfold World.cell? at hc
   simp only at hc
   apply Nat.lt_of_not_le
   intro hle
   rw [Array.getElem?_eq_none hle] at hc
   simp at hc
 obtain ⟨A, n, c, rfl⟩ : ∃ A n c, cx = .slice A n c := by
   cases x <;> simp [rowLen] at hr
   case sl xs t =>
     simp only [VR] at hx
     obtain ⟨A, n', c, rfl, _⟩ := hx
     exact ⟨A, n', c, rfl⟩
   case ob s g off l =>
     simp only [VR] at hx
     obtain ⟨i, A, c, _, _, rfl, _⟩ := hx
     exact ⟨A, _, c, rfl⟩
 intro o a next Q hn
 rw [callFunc_enter Tryz.func251 rfl (by decide), Oper.upon_enter]
 have hc : Calls Tryz.prog 251 #[.slice A n c] w fun e w' => e = .returned (.func (.func 259) #[] #[.pointer (some ⟨w.heap.size, 0, none⟩)]) ∧ w' = w.alloc (.cells #[.slice A n c] 22) := by
   go_enter Tryz.func251, Tryz.ntmps251
   go_wp2
   go_ret
   exact ⟨rfl, rfl⟩
 refine hc.mono ?_
 rintro e w' ⟨rfl, rfl⟩
 refine hn _ _ ⟨fun b o => if b = w.heap.size ∧ o = 0 then some (.slice A n c) else I b o, fun b o v hv => ?_, ?_, fun b y hy => ?_, rfl, rfl, rfl, by simp, fun b o v hv => ?_⟩
 · have := hlo b o v hv
   show (if b = w.heap.size ∧ o = 0 then some (Value.slice A n c) else I b o) = some v
   rw [if_neg (by omega)]
   exact hv
 · simp only [VR]
   refine ⟨w.heap.size, .slice A n c, rfl, by simp, VR.mono (GLe.refl _) (fun b o v hv => ?_) hx⟩
   have := hlo b o v hv
   show (if b = w.heap.size ∧ o = 0 then some (Value.slice A n c) else I b o) = some v
   rw [if_neg (by omega)]
   exact hv
 · rw [RowKit.Below.heap_alloc _ _ _ (Array.getElem?_eq_some_iff.1 hy).1]
   exact hy
 · replace hv : (if b = w.heap.size ∧ o = 0 then some (Value.slice A n c) else I b o) = some v := hv
   split at hv
   · rename_i hbo
     obtain ⟨rfl, rfl⟩ := hbo
     simp only [Option.some.injEq] at hv
     subst hv
     refine .inr ⟨Nat.le_refl _, ?_⟩
     unfold World.cell?
     simp only [World.alloc_heap_new]
     rfl
   · exact .inl hv
end Am
end Go.Proofs.YtbeooboebfbchaaGreatDoor
