/- Operations of the abstract machine look at few temporaries. Two operations of the abstract machine that touch different objects may come in either order. Regions whose order is open: the abstract machine's run in the order of the text stands for all orders. -/
import Derived.Orders
import Derived.Test.YtbeooboebfbchaaGreatDoorM12
set_option linter.unusedVariables false
set_option linter.unusedSimpArgs false
namespace Go.Proofs.YtbeooboebfbchaaGreatDoor.Am
open Go
set_option maxRecDepth 100000
def Agree (l : List Nat) (ts ts' : Tmps) : Prop := ∀ t ∈ l, ts t = ts' t
theorem Agree.left {a b : List Nat} {ts ts' : Tmps} (h : Agree (a ++ b) ts ts') : Agree a ts ts' := fun t ht => h t (List.mem_append_left _ ht)
theorem Agree.right {a b : List Nat} {ts ts' : Tmps} (h : Agree (a ++ b) ts ts') : Agree b ts ts' := fun t ht => h t (List.mem_append_right _ ht)
theorem ev_congr {ts ts' : Tmps} {x : AOpd} (h : Agree x.tmps ts ts') : x.ev ts = x.ev ts' := by
 cases x with
 | tmp t => exact h t (by simp [AOpd.tmps])
 | const v => rfl
theorem evO_congr {ts ts' : Tmps} {x : Option AOpd} (h : Agree (opdO x) ts ts') : x.map (·.ev ts) = x.map (·.ev ts') := by
 cases x with
 | none => rfl
 | some x => simp only [Option.map_some, ev_congr (x := x) h]
theorem evL_congr {ts ts' : Tmps} {xs : List AOpd} (h : Agree (xs.flatMap AOpd.tmps) ts ts') : xs.map (·.ev ts) = xs.map (·.ev ts') :=
 List.map_congr_left fun x hx => ev_congr fun t ht => h t (List.mem_flatMap.2 ⟨x, hx, ht⟩)
theorem evP_congr {α : Type} {ts ts' : Tmps} {xs : List α} {g : α → AOpd} (h : Agree (xs.flatMap fun p => (g p).tmps) ts ts') (x : α) (hx : x ∈ xs) : (g x).ev ts = (g x).ev ts' :=
 ev_congr fun t ht => h t (List.mem_flatMap.2 ⟨x, hx, ht⟩)
theorem prim_congr {h : List AObj} {base gen : Nat} {ts ts' : Tmps} {op : AOp} (hr : Agree op.reads ts ts') : prim h base gen ts op = prim h base gen ts' op := by
 cases op <;> simp only [AOp.reads] at hr
 case move x => simp only [prim, ev_congr hr]
 case box k x => simp only [prim, ev_congr hr]
 case load sz x => simp only [prim, ev_congr hr]
 case nilCheck x => simp only [prim, ev_congr hr]
 case unOp o x => simp only [prim, ev_congr hr]
 case cInt k x => simp only [prim, ev_congr hr]
 case cStr x => simp only [prim, ev_congr hr]
 case toBytes x => simp only [prim, ev_congr hr]
 case ofBytes x => simp only [prim, ev_congr hr]
 case fieldAddr x o => simp only [prim, ev_congr hr]
 case field x o s => simp only [prim, ev_congr hr]
 case extract x i => simp only [prim, ev_congr hr]
 case len t x => simp only [prim, ev_congr hr]
 case backward f x => simp only [prim, ev_congr hr]
 case pick c a b =>
   have h1 := ev_congr hr.left.left
   have h2 := ev_congr hr.left.right
   have h3 := ev_congr hr.right
   simp only [prim, h1]
   split
   · rename_i t _
     cases t <;> simp [h2, h3]
   · rfl
 case alloc => rfl
 case makeMap => rfl
 case bad => rfl
 case build z ps =>
   simp only [prim]
   rw [List.map_congr_left (f := fun p : Nat × Nat × AOpd => (p.1, p.2.1, p.2.2.ev ts)) (g := fun p => (p.1, p.2.1, p.2.2.ev ts')) fun p hp => by rw [evP_congr hr p hp]]
 case buildSlice k mu z n ps =>
   simp only [prim]
   rw [List.map_congr_left (f := fun p : Nat × AOpd => p.2.ev ts) (g := fun p => p.2.ev ts') fun p hp => by rw [evP_congr hr p hp]]
 case store s a x => simp only [prim, ev_congr hr.left, ev_congr hr.right]
 case binOp o t x y => simp only [prim, ev_congr hr.left, ev_congr hr.right]
 case lookup t z x ix ok => simp only [prim, ev_congr hr.left, ev_congr hr.right]
 case mapUpdate t m k v => simp only [prim, ev_congr hr.left.left, ev_congr hr.left.right, ev_congr hr.right]
 case makeSlice k z b l c => simp only [prim, ev_congr hr.left, ev_congr hr.right]
 case makeRow k z b l c => simp only [prim, ev_congr hr.left, ev_congr hr.right]
 case slice e x lo hi mx => simp only [prim, ev_congr hr.left.left.left, evO_congr hr.left.left.right, evO_congr hr.left.right, evO_congr hr.right]
 case indexAddr a e x ix => simp only [prim, ev_congr hr.left, ev_congr hr.right]
 case index a x ix => simp only [prim, ev_congr hr.left, ev_congr hr.right]
 case makeFunc f cap => simp only [prim, evL_congr hr]
 case minmax m x y => simp only [prim, ev_congr hr.left, ev_congr hr.right]
 case append k e b mu x y => simp only [prim, ev_congr hr.left, ev_congr hr.right]
 case call => rfl
 case callv => rfl
theorem footP_congr {base : Nat} {ts ts' : Tmps} {op : AOp} (hp : op.isCall = false) (hr : Agree op.reads ts ts') : footP base ts op = footP base ts' op := by
 cases op <;> simp only [AOp.reads] at hr <;> simp only [footP, foot]
 case load sz x => rw [ev_congr hr]
 case store s a x => rw [ev_congr hr.left, ev_congr hr.right]
 case buildSlice k mu z n ps => rw [List.map_congr_left (f := fun p : Nat × AOpd => p.2.ev ts) (g := fun p => p.2.ev ts') fun p hp => by rw [evP_congr hr p hp]]
 case ofBytes x => rw [ev_congr hr]
 case lookup t z x ix ok => rw [ev_congr hr.left]
 case mapUpdate t m k v => rw [ev_congr hr.left.left, ev_congr hr.right]
 case slice e x lo hi mx => rw [ev_congr hr.left.left.left]
 case indexAddr a e x ix => rw [ev_congr hr.left]
 case len t x => rw [ev_congr hr]
 case append k e b mu x y => rw [ev_congr hr.left, ev_congr hr.right]
 case call => simp [AOp.isCall] at hp
 case callv => simp [AOp.isCall] at hp
inductive Todo where
 | prim (op : AOp)
 | call (f : Nat) (args : List AV)
def Todo.isCall : Todo → Bool
 | .prim _ => false
 | .call .. => true
def idle : AOp := .move (.const (.tup []))
def todoOp (ts : Tmps) : AOp → Option Todo
 | .call f args => some (.call f (args.map (·.ev ts)))
 | .callv x args => match x.ev ts with
   | .fn f cap => some (.call f (args.map (·.ev ts) ++ cap))
   | _ => none
 | op => some (.prim op)
def todo (ts : Tmps) (o : AOper) : Option Todo :=
 match wantedA ts o.guard with
 | some true => todoOp ts o.op
 | some false => some (.prim idle)
 | none => none
def doT (C : Caller) (base gen : Nat) (ts : Tmps) (h : List AObj) (clk : Nat) : Todo → Option (AV × List AObj × Nat)
 | .prim op => (Am.prim h base gen ts op).map fun r => (r.1, r.2, clk)
 | .call f args => C f args h clk
def footT (Γ : AProg) (base : Nat) (ts : Tmps) (h h' : List AObj) : Todo → List Nat × List Nat
 | .prim op => footP base ts op
 | .call f args => touched (callFoot Γ f args h) h h'
def footOfK (Γ : AProg) (base : Nat) (o : AOper) (s s' : St) : List Nat × List Nat :=
 if wantedA s.ts o.guard = some true then foot Γ s.h s'.h base s.ts o.op else ([], [])
theorem stepA_todo {C : Caller} {base gen : Nat} {o : AOper} {s s' : St} (hs : stepA C base gen o s = some s') :
   ∃ t v h c, todo s.ts o = some t ∧ doT C base gen s.ts s.h s.clk t = some (v, h, c) ∧ s' = ⟨putA s.ts o.dst v, h, c⟩ ∧ ∀ Γ, footOfK Γ base o s s' = footT Γ base s.ts s.h h t := by
 unfold stepA at hs
 unfold todo footOfK
 split at hs
 · rename_i hw
   simp only [hw]
   obtain ⟨dst, op, guard⟩ := o
   cases op
   case call f args =>
     simp only at hs
     split at hs
     · rename_i v h c hc
       simp only [Option.some.injEq] at hs
       subst hs
       exact ⟨_, v, h, c, rfl, hc, rfl, fun Γ => rfl⟩
     · simp at hs
   case callv x args =>
     simp only at hs
     split at hs
     · rename_i f cap hx
       split at hs
       · rename_i v h c hc
         simp only [Option.some.injEq] at hs
         subst hs
         refine ⟨.call f (args.map (·.ev s.ts) ++ cap), v, h, c, by simp only [todoOp, hx], hc, rfl, fun Γ => ?_⟩
         simp only [foot, hx, footT, if_true]
       · simp at hs
     · simp at hs
   all_goals
     simp only at hs
     split at hs
     · rename_i v h hc
       simp only [Option.some.injEq] at hs
       subst hs
       exact ⟨_, v, h, s.clk, rfl, by simp only [doT, hc, Option.map_some], rfl, fun Γ => rfl⟩
     · simp at hs
 · rename_i hw
   simp only [Option.some.injEq] at hs
   subst hs
   exact ⟨.prim idle, .tup [], s.h, s.clk, by simp only [hw], rfl, rfl, fun Γ => by rw [if_neg (by simp [hw])]; rfl⟩
 · simp at hs
theorem stepA_of {C : Caller} {base gen : Nat} {o : AOper} {s : St} {t : Todo} {v : AV} {h : List AObj} {c : Nat} (ht : todo s.ts o = some t) (hd : doT C base gen s.ts s.h s.clk t = some (v, h, c)) :
   stepA C base gen o s = some ⟨putA s.ts o.dst v, h, c⟩ := by
 unfold todo at ht
 unfold stepA
 split at ht
 · rename_i hw
   simp only [hw]
   obtain ⟨dst, op, guard⟩ := o
   cases op
   case call f args =>
     simp only [todoOp, Option.some.injEq] at ht
     subst ht
     simp only [doT] at hd
     simp only [hd]
   case callv x args =>
     simp only [todoOp] at ht
     split at ht
     · rename_i f cap hx
       simp only [Option.some.injEq] at ht
       subst ht
       simp only [doT] at hd
       simp only [hx, hd]
     · simp at ht
   all_goals
     simp only [todoOp, Option.some.injEq] at ht
     subst ht
     simp only [doT, Option.map_eq_some_iff, Prod.mk.injEq] at hd
     obtain ⟨⟨v', h'⟩, hp, rfl, rfl, rfl⟩ := hd
     simp only [hp]
 · rename_i hw
   simp only [Option.some.injEq] at ht
   subst ht
   simp only [doT, idle, prim, AOpd.ev, Option.map_some, Option.some.injEq, Prod.mk.injEq] at hd
   obtain ⟨rfl, rfl, rfl⟩ := hd
   simp only [hw]
 · simp at ht
theorem todo_notCall {ts : Tmps} {o : AOper} {t : Todo} (ht : todo ts o = some t) (hc : o.op.isCall = false) : t.isCall = false := by
 unfold todo at ht
 split at ht
 · obtain ⟨dst, op, guard⟩ := o
   cases op <;> simp [AOp.isCall] at hc <;> (simp only [todoOp, Option.some.injEq] at ht; subst ht; rfl)
 · simp only [Option.some.injEq] at ht
   subst ht
   rfl
 · simp at ht
theorem todo_prim {ts : Tmps} {o : AOper} {op : AOp} (ht : todo ts o = some (.prim op)) : (op = o.op ∨ op = idle) ∧ op.isCall = false := by
 unfold todo at ht
 split at ht
 · obtain ⟨dst, op', guard⟩ := o
   cases op'
   case callv x args =>
     simp only [todoOp] at ht
     split at ht <;> simp at ht
   case call x args => simp [todoOp] at ht
   all_goals
     simp only [todoOp, Option.some.injEq, Todo.prim.injEq] at ht
     subst ht
     exact ⟨.inl rfl, rfl⟩
 · simp only [Option.some.injEq, Todo.prim.injEq] at ht
   subst ht
   exact ⟨.inr rfl, rfl⟩
 · simp at ht
theorem wantedA_congr {ts ts' : Tmps} {o : AOper} (h : Agree o.reads ts ts') : wantedA ts o.guard = wantedA ts' o.guard := by
 unfold wantedA
 cases hg : o.guard with
 | none => rfl
 | some g =>
   obtain ⟨t, b⟩ := g
   have : ts t = ts' t := h t (by simp [AOper.reads, hg])
   simp only [this]
theorem todoOp_congr {ts ts' : Tmps} {op : AOp} (h : Agree op.reads ts ts') : todoOp ts op = todoOp ts' op := by
 cases op <;> simp only [AOp.reads] at h <;> simp only [todoOp]
 case call f args => rw [evL_congr h]
 case callv x args => rw [ev_congr h.left, evL_congr h.right]
theorem todo_congr {ts ts' : Tmps} {o : AOper} (h : Agree o.reads ts ts') : todo ts o = todo ts' o := by
 unfold todo
 rw [wantedA_congr h, todoOp_congr (h.left)]
theorem doT_congr {C : Caller} {base gen clk : Nat} {ts ts' : Tmps} {o : AOper} {t : Todo} {h : List AObj} (hr : Agree o.reads ts ts') (ht : todo ts o = some t) : doT C base gen ts h clk t = doT C base gen ts' h clk t := by
 cases t with
 | call f args => rfl
 | prim op =>
   simp only [doT]
   rcases (todo_prim ht).1 with rfl | rfl
   · rw [prim_congr hr.left]
   · rfl
theorem footT_congr {Γ : AProg} {base : Nat} {ts ts' : Tmps} {o : AOper} {t : Todo} {h h' : List AObj} (hr : Agree o.reads ts ts') (ht : todo ts o = some t) : footT Γ base ts h h' t = footT Γ base ts' h h' t := by
 cases t with
 | call f args => rfl
 | prim op =>
   simp only [footT]
   obtain ⟨h1, h2⟩ := todo_prim ht
   rcases h1 with rfl | rfl
   · exact footP_congr h2 hr.left
   · rfl
section
theorem disjoint_spec {a b : List Nat} (h : disjoint a b = true) {s : Nat} (ha : s ∈ a) : s ∉ b := by
 have := List.all_eq_true.1 h s ha
 simpa using this
structure Apart (f g : List Nat × List Nat) : Prop where
 wr : ∀ s ∈ f.2, s ∉ g.1
 ww : ∀ s ∈ f.2, s ∉ g.2
 rw : ∀ s ∈ g.2, s ∉ f.1
theorem apart_spec {f g : List Nat × List Nat} (h : apart f g = true) : Apart f g := by
 simp only [apart, Bool.and_eq_true] at h
 exact ⟨fun s hs => disjoint_spec h.1.1 hs, fun s hs => disjoint_spec h.1.2 hs, fun s hs => disjoint_spec h.2 hs⟩
section
variable {R : Nat → ACode → St → Option (AEx × St)} {Γ : AProg} {base : Nat} {ts : Tmps}
theorem swap_pp {h h1 h2 : List AObj} {ga gb : Nat} {a b : AOp} {va vb : AV} (ha : prim h base ga ts a = some (va, h1)) (hb : prim h1 base gb ts b = some (vb, h2)) (hp : Apart (footP base ts a) (footP base ts b)) :
   ∃ k1, prim h base gb ts b = some (vb, k1) ∧ prim k1 base ga ts a = some (va, h2) := by
 have hoa := prim_out ha
 have hob := prim_out hb
 have s1 : Same ((footP base ts b).1 ++ (footP base ts b).2) h1 h := fun s hs => by
   refine hoa s fun hm => ?_
   rcases List.mem_append.1 hs with hs | hs
   · exact hp.wr s hm hs
   · exact hp.ww s hm hs
 obtain ⟨k1, hk1, s2⟩ := prim_same s1 (fun s hs => hs) hb
 have hok := prim_out hk1
 have s3 : Same ((footP base ts a).1 ++ (footP base ts a).2) h k1 := fun s hs => by
   refine (hok s fun hm => ?_).symm
   rcases List.mem_append.1 hs with hs | hs
   · exact hp.rw s hm hs
   · exact hp.ww s hs hm
 obtain ⟨k2, hk2, s4⟩ := prim_same s3 (fun s hs => hs) ha
 have hoq := prim_out hk2
 refine ⟨k1, hk1, ?_⟩
 rw [hk2]
 have : k2 = h2 := by
   apply List.ext_getElem?
   intro x
   by_cases hx : x ∈ (footP base ts a).2
   · rw [← s4 x (List.mem_append_right _ hx), hob x (hp.ww x hx)]
   · rw [hoq x hx]
     by_cases hy : x ∈ (footP base ts b).2
     · rw [← s2 x (List.mem_append_right _ hy)]
     · rw [hok x hy, hob x hy, hoa x hx]
 rw [this]
theorem swap_pc {h h1 h2 : List AObj} {ga c c2 f : Nat} {args : List AV} {a : AOp} {va vb : AV} (ha : prim h base ga ts a = some (va, h1)) (hb : callWith R Γ f args h1 c = some (vb, h2, c2)) (hp : Apart (footP base ts a) (touched (callFoot Γ f args h1) h1 h2))
   (hbd : ∀ s ∈ (footP base ts a).1 ++ (footP base ts a).2, s < h.length) :
   ∃ k1, callWith R Γ f args h c = some (vb, k1, c2) ∧ prim k1 base ga ts a = some (va, h2) ∧ touched (callFoot Γ f args h) h k1 = touched (callFoot Γ f args h1) h1 h2 := by
 have hoa := prim_out ha
 have hla := prim_length ha
 have s1 : Same (callFoot Γ f args h1) h1 h := fun s hs => hoa s fun hm => hp.wr s hm hs
 obtain ⟨k1, hk1, al⟩ := call_same hla.symm s1 hb
 have hfe := callFoot_same hla.symm s1
 obtain ⟨hl1, hob⟩ := call_out hb
 have hout : ∀ s, s < h1.length → s ∉ (touched (callFoot Γ f args h1) h1 h2).2 → h2[s]? = h1[s]? := fun s hs hn => touched_out hs hl1 (hob s hs) hn
 have hold : ∀ s, h1[s]? = h[s]? → h2[s]? = k1[s]? := fun s he => by
   by_cases hs : s < h1.length
   · exact al.old s hs he
   · exact (al.new s (by omega)).symm
 have hfoot : touched (callFoot Γ f args h) h k1 = touched (callFoot Γ f args h1) h1 h2 := by
   rw [hfe]
   exact touched_same (fun s hs => (s1 s hs).symm) (fun s hs => (hold s (s1 s hs)).symm)
 obtain ⟨hl2, hok⟩ := call_out hk1
 rw [hfe] at hok
 have s3 : Same ((footP base ts a).1 ++ (footP base ts a).2) h k1 := fun s hs => by
   have hlt := hbd s hs
   refine (touched_out hlt hl2 (hok s hlt) fun hm => ?_).symm
   rw [← hfe, hfoot] at hm
   rcases List.mem_append.1 hs with hs | hs
   · exact hp.rw s hm hs
   · exact hp.ww s hs hm
 obtain ⟨k2, hk2, s4⟩ := prim_same s3 (fun s hs => hs) ha
 have hoq := prim_out hk2
 refine ⟨k1, hk1, ?_, hfoot⟩
 rw [hk2]
 have : k2 = h2 := by
   apply List.ext_getElem?
   intro x
   by_cases hx : x ∈ (footP base ts a).2
   · have hlt := hbd x (List.mem_append_right _ hx)
     rw [← s4 x (List.mem_append_right _ hx), hout x (by omega) (hp.ww x hx)]
   · rw [hoq x hx]
     exact (hold x (hoa x hx)).symm
 rw [this]
theorem swap_cp {h h1 h2 : List AObj} {gb c c1 f : Nat} {args : List AV} {b : AOp} {va vb : AV} (ha : callWith R Γ f args h c = some (va, h1, c1)) (hb : prim h1 base gb ts b = some (vb, h2)) (hp : Apart (touched (callFoot Γ f args h) h h1) (footP base ts b))
   (hbd : ∀ s ∈ (footP base ts b).1 ++ (footP base ts b).2, s < h.length) :
   ∃ k1, prim h base gb ts b = some (vb, k1) ∧ callWith R Γ f args k1 c = some (va, h2, c1) ∧ touched (callFoot Γ f args k1) k1 h2 = touched (callFoot Γ f args h) h h1 := by
 obtain ⟨hl1, hoa⟩ := call_out ha
 have hout : ∀ s, s < h.length → s ∉ (touched (callFoot Γ f args h) h h1).2 → h1[s]? = h[s]? := fun s hs hn => touched_out hs hl1 (hoa s hs) hn
 have hob := prim_out hb
 have s1 : Same ((footP base ts b).1 ++ (footP base ts b).2) h1 h := fun s hs => by
   refine hout s (hbd s hs) fun hm => ?_
   rcases List.mem_append.1 hs with hs | hs
   · exact hp.wr s hm hs
   · exact hp.ww s hm hs
 obtain ⟨k1, hk1, s2⟩ := prim_same s1 (fun s hs => hs) hb
 have hok := prim_out hk1
 have hlk := prim_length hk1
 have hlb := prim_length hb
 have s3 : Same (callFoot Γ f args h) h k1 := fun s hs => (hok s fun hm => hp.rw s hm hs).symm
 obtain ⟨k2, hk2, al⟩ := call_same hlk s3 ha
 have hfe := callFoot_same hlk s3
 obtain ⟨hl2, hoq⟩ := call_out hk2
 rw [hfe] at hoq
 have hold : ∀ s, h[s]? = k1[s]? → h1[s]? = k2[s]? := fun s he => by
   by_cases hs : s < h.length
   · exact al.old s hs he
   · exact (al.new s (by omega)).symm
 have : k2 = h2 := by
   apply List.ext_getElem?
   intro x
   by_cases hx : x ∈ (footP base ts b).2
   · have hlt := hbd x (List.mem_append_right _ hx)
     rw [hoq x (by omega) (hp.rw x hx), ← s2 x (List.mem_append_right _ hx)]
   · rw [← hold x (hok x hx).symm, hob x hx]
 subst this
 refine ⟨k1, hk1, hk2, ?_⟩
 rw [hfe]
 exact touched_same (fun s hs => (s3 s hs).symm) (fun s hs => (hold s (s3 s hs)).symm)
theorem swapT {t u : Todo} {h h1 h2 : List AObj} {ga gb c c1 c2 : Nat} {va vb : AV} (hnc : t.isCall = false ∨ u.isCall = false)
   (ha : doT (callWith R Γ) base ga ts h c t = some (va, h1, c1)) (hb : doT (callWith R Γ) base gb ts h1 c1 u = some (vb, h2, c2)) (hp : Apart (footT Γ base ts h h1 t) (footT Γ base ts h1 h2 u))
   (hbt : u.isCall = true → ∀ s ∈ (footT Γ base ts h h1 t).1 ++ (footT Γ base ts h h1 t).2, s < h.length) (hbu : t.isCall = true → ∀ s ∈ (footT Γ base ts h1 h2 u).1 ++ (footT Γ base ts h1 h2 u).2, s < h.length) :
   ∃ k1 d1, doT (callWith R Γ) base gb ts h c u = some (vb, k1, d1) ∧ doT (callWith R Γ) base ga ts k1 d1 t = some (va, h2, c2) ∧ footT Γ base ts h k1 u = footT Γ base ts h1 h2 u ∧ footT Γ base ts k1 h2 t = footT Γ base ts h h1 t ∧ h.length ≤ k1.length := by
 cases t with
 | prim a =>
   simp only [doT, Option.map_eq_some_iff, Prod.mk.injEq] at ha
   obtain ⟨⟨va', h1'⟩, ha, rfl, rfl, rfl⟩ := ha
   cases u with
   | prim b =>
     simp only [doT, Option.map_eq_some_iff, Prod.mk.injEq] at hb
     obtain ⟨⟨vb', h2'⟩, hb, rfl, rfl, rfl⟩ := hb
     obtain ⟨k1, e1, e2⟩ := swap_pp ha hb hp
     exact ⟨k1, c, by simp only [doT, e1, Option.map_some], by simp only [doT, e2, Option.map_some], rfl, rfl, by rw [prim_length e1]; exact Nat.le_refl _⟩
   | call f args =>
     obtain ⟨k1, e1, e2, e3⟩ := swap_pc ha hb hp (hbt rfl)
     exact ⟨k1, c2, e1, by simp only [doT, e2, Option.map_some], e3, rfl, (call_out e1).1⟩
 | call f args =>
   cases u with
   | call _ _ => simp [Todo.isCall] at hnc
   | prim b =>
     simp only [doT, Option.map_eq_some_iff, Prod.mk.injEq] at hb
     obtain ⟨⟨vb', h2'⟩, hb, rfl, rfl, rfl⟩ := hb
     obtain ⟨k1, e1, e2, e3⟩ := swap_cp ha hb hp (hbu rfl)
     exact ⟨k1, c, by simp only [doT, e1, Option.map_some], e2, rfl, e3, by rw [prim_length e1]; exact Nat.le_refl _⟩
theorem putA_agree {ts : Tmps} {d : Option Nat} {v : AV} {l : List Nat} (h : ∀ t, d = some t → t ∉ l) : Agree l (putA ts d v) ts := fun t ht => by
 cases d with
 | none => rfl
 | some d =>
   have : t ≠ d := fun e => h d rfl (e ▸ ht)
   simp only [putA, upd, if_neg this]
theorem putA_comm {ts : Tmps} {d e : Option Nat} {v u : AV} (h : ∀ t, d = some t → e ≠ some t) : putA (putA ts d v) e u = putA (putA ts e u) d v := by
 cases d with
 | none => rfl
 | some d =>
   cases e with
   | none => rfl
   | some e =>
     have hne : e ≠ d := fun he => h d rfl (by rw [he])
     funext j
     simp only [putA, upd]
     by_cases h1 : j = e
     · subst h1
       simp [hne]
     · simp [h1]
theorem indep_spec {a b : AOper} (h : indep a b = true) : (∀ t, a.dst = some t → t ∉ b.reads) ∧ (∀ t, a.dst = some t → b.dst ≠ some t) ∧ (∀ t, b.dst = some t → t ∉ a.reads) := by
 unfold indep at h
 simp only [Bool.and_eq_true] at h
 obtain ⟨h1, h2⟩ := h
 refine ⟨fun t ht => ?_, fun t ht => ?_, fun t ht => ?_⟩
 · rw [ht] at h1; simp at h1; exact h1.1
 · rw [ht] at h1; simp at h1; exact h1.2
 · rw [ht] at h2; simpa using h2
theorem swap_step {a b : AOper} {s s1 s2 : St} {ga gb : Nat} (ind : indep a b = true) (hnc : a.op.isCall = false ∨ b.op.isCall = false)
   (ha : stepA (callWith R Γ) base ga a s = some s1) (hb : stepA (callWith R Γ) base gb b s1 = some s2) (hp : Apart (footOfK Γ base a s s1) (footOfK Γ base b s1 s2))
   (hbt : b.op.isCall = true → ∀ x ∈ (footOfK Γ base a s s1).1 ++ (footOfK Γ base a s s1).2, x < s.h.length) (hbu : a.op.isCall = true → ∀ x ∈ (footOfK Γ base b s1 s2).1 ++ (footOfK Γ base b s1 s2).2, x < s.h.length) :
   ∃ k, stepA (callWith R Γ) base gb b s = some k ∧ stepA (callWith R Γ) base ga a k = some s2 ∧ footOfK Γ base b s k = footOfK Γ base b s1 s2 ∧ footOfK Γ base a k s2 = footOfK Γ base a s s1 ∧ s.h.length ≤ k.h.length := by
 obtain ⟨i1, i2, i3⟩ := indep_spec ind
 obtain ⟨t, va, h1, c1, ht, hda, rfl, hfa⟩ := stepA_todo ha
 obtain ⟨u, vb, h2, c2, hu, hdb, rfl, hfb⟩ := stepA_todo hb
 simp only at hu hdb hfb hp hbt hbu hb
 have hA : Agree b.reads (putA s.ts a.dst va) s.ts := putA_agree i1
 have hu' : todo s.ts b = some u := by rw [← todo_congr hA]; exact hu
 have hdb' : doT (callWith R Γ) base gb s.ts h1 c1 u = some (vb, h2, c2) := by rw [← doT_congr hA hu]; exact hdb
 rw [hfa, hfb, footT_congr hA hu] at hp
 rw [hfa] at hbt
 rw [hfb, footT_congr hA hu] at hbu
 obtain ⟨k1, d1, e1, e2, e3, e4, e5⟩ := swapT (hnc.imp (todo_notCall ht) (todo_notCall hu)) hda hdb' hp (fun hc => hbt (by
   cases hx : b.op.isCall with
   | true => rfl
   | false => rw [todo_notCall hu hx] at hc; simp at hc)) (fun hc => hbu (by
   cases hx : a.op.isCall with
   | true => rfl
   | false => rw [todo_notCall ht hx] at hc; simp at hc))
 have hB : Agree a.reads (putA s.ts b.dst vb) s.ts := putA_agree i3
 have st1 := stepA_of (s := s) hu' e1
 have ht' : todo (putA s.ts b.dst vb) a = some t := by rw [todo_congr hB]; exact ht
 have st2 := stepA_of (C := callWith R Γ) (base := base) (gen := ga) (s := ⟨putA s.ts b.dst vb, k1, d1⟩) ht' (by rw [← doT_congr hB ht'] at e2; exact e2)
 have hc : putA (putA s.ts b.dst vb) a.dst va = putA (putA s.ts a.dst va) b.dst vb := putA_comm fun t ht he => i2 t he ht
 simp only at st2
 rw [hc] at st2
 refine ⟨_, st1, st2, ?_, ?_, e5⟩
 · obtain ⟨u2, _, q1, _, hu2, _, he, hf2⟩ := stepA_todo st1
   obtain rfl : k1 = q1 := congrArg St.h he
   rw [hu'] at hu2
   simp only [Option.some.injEq] at hu2
   subst hu2
   rw [hf2, hfb, footT_congr hA hu]
   exact e3
 · obtain ⟨t2, _, q1, _, ht2, _, he, hf2⟩ := stepA_todo st2
   obtain rfl : h2 = q1 := congrArg St.h he
   simp only at ht2
   rw [ht'] at ht2
   simp only [Option.some.injEq] at ht2
   subst ht2
   rw [hf2, hfa]
   simp only
   rw [footT_congr hB ht']
   exact e4
end
end
section
def stepBits (acc : Array Nat) (s : Nat) (e : Edge) : Nat := if Region.binds .any e then s ||| 2 ^ e.on ||| acc.getD e.on 0 else s
theorem bits_fold {acc : Array Nat} {i : Nat} : ∀ {es : List Edge} {s : Nat}, (es.foldl (stepBits acc) s).testBit i = true → s.testBit i = true ∨ ∃ e ∈ es, Region.binds .any e = true ∧ (e.on = i ∨ (acc.getD e.on 0).testBit i = true)
 | [], s, h => .inl h
 | e :: es, s, h => by
   rw [List.foldl_cons] at h
   rcases bits_fold h with h | ⟨e', he', h'⟩
   · unfold stepBits at h
     split at h
     · rename_i hb
       simp only [Nat.testBit_or, Bool.or_eq_true, Nat.testBit_two_pow, decide_eq_true_eq] at h
       rcases h with (h | h) | h
       · exact .inl h
       · exact .inr ⟨e, List.mem_cons_self, hb, .inl h⟩
       · exact .inr ⟨e, List.mem_cons_self, hb, .inr h⟩
     · exact .inl h
   · exact .inr ⟨e', List.mem_cons_of_mem _ he', h'⟩
def pushBits (acc : Array Nat) (o : Oper) : Array Nat := acc.push (o.after.toList.foldl (stepBits acc) 0)
theorem before_eq (ops : Array Oper) : Region.before ops = ops.toList.foldl pushBits #[] := by
 unfold Region.before
 rw [← Array.foldl_toList]
 congr 1
 funext acc o
 unfold pushBits
 rw [← Array.foldl_toList]
 rfl
theorem push_getD {acc : Array Nat} {x i b : Nat} (h : (acc.getD i 0).testBit b = true) : (acc.push x).getD i 0 = acc.getD i 0 := by
 have hi : i < acc.size := by
   apply Nat.lt_of_not_le
   intro hn
   rw [Array.getD_eq_getD_getElem?, Array.getElem?_eq_none hn] at h
   simp at h
 rw [Array.getD_eq_getD_getElem?, Array.getD_eq_getD_getElem?, Array.getElem?_push_lt hi, Array.getElem?_eq_getElem hi]
theorem rev_ind {α : Type} {p : List α → Prop} (h0 : p []) (h1 : ∀ l a, p l → p (l ++ [a])) (l : List α) : p l := by
 have : ∀ m : List α, p m.reverse := fun m => by
   induction m with
   | nil => exact h0
   | cons a m ih => rw [List.reverse_cons]; exact h1 _ _ ih
 have h2 := this l.reverse
 rwa [List.reverse_reverse] at h2
theorem fold_bits (l : List Oper) : (l.foldl pushBits #[]).size = l.length ∧ ∀ j i, ((l.foldl pushBits #[]).getD j 0).testBit i = true → ∃ o, l[j]? = some o ∧ ∃ e ∈ o.after.toList, Region.binds .any e = true ∧ (e.on = i ∨ ((l.foldl pushBits #[]).getD e.on 0).testBit i = true) := by
 induction l using rev_ind with
 | h0 => exact ⟨rfl, fun j i h => by simp at h⟩
 | h1 l o ih =>
   obtain ⟨h1, h2⟩ := ih
   rw [List.foldl_append, List.foldl_cons, List.foldl_nil]
   generalize l.foldl pushBits #[] = B at *
   refine ⟨by simp [pushBits, h1], fun j i h => ?_⟩
   by_cases hj : j < l.length
   · have hg : (pushBits B o).getD j 0 = B.getD j 0 := by
       unfold pushBits
       rw [Array.getD_eq_getD_getElem?, Array.getD_eq_getD_getElem?, Array.getElem?_push_lt (by omega), Array.getElem?_eq_getElem (by omega)]
     rw [hg] at h
     obtain ⟨o', ho', e, he, hb, h3⟩ := h2 j i h
     refine ⟨o', by rw [List.getElem?_append_left hj]; exact ho', e, he, hb, h3.imp id fun h3 => ?_⟩
     unfold pushBits
     rw [push_getD h3]
     exact h3
   · by_cases hj2 : j = l.length
     · subst hj2
       have hg : (pushBits B o).getD l.length 0 = o.after.toList.foldl (stepBits B) 0 := by
         unfold pushBits
         rw [Array.getD_eq_getD_getElem?, ← h1, Array.getElem?_push_size]
         rfl
       rw [hg] at h
       rcases bits_fold h with h | ⟨e, he, hb, h3⟩
       · simp at h
       · refine ⟨o, by simp, e, he, hb, h3.imp id fun h3 => ?_⟩
         unfold pushBits
         rw [push_getD h3]
         exact h3
     · rw [Array.getD_eq_getD_getElem?, Array.getElem?_eq_none (by simp [pushBits]; omega)] at h
       simp at h
theorem before_spec {ops : Array Oper} {j i : Nat} (h : ((Region.before ops).toList.getD j 0).testBit i = true) :
   ∃ o, ops[j]? = some o ∧ ∃ e ∈ o.after.toList, Region.binds .any e = true ∧ (e.on = i ∨ ((Region.before ops).toList.getD e.on 0).testBit i = true) := by
 have conv : ∀ k, (Region.before ops).toList.getD k 0 = (ops.toList.foldl pushBits #[]).getD k 0 := fun k => by
   rw [before_eq]
   simp [List.getD, Array.getD_eq_getD_getElem?]
 rw [conv] at h
 obtain ⟨o, ho, e, he, hb, h3⟩ := (fold_bits ops.toList).2 j i h
 exact ⟨o, by simpa using ho, e, he, hb, h3.imp id fun h3 => by rw [conv]; exact h3⟩
theorem edgesOk_spec : ∀ {os : List Oper} {j0 : Nat}, edgesOk j0 os = true → ∀ (j : Nat) o, os[j]? = some o → ∀ e ∈ o.after.toList, Region.binds .any e = true → e.on < j0 + j
 | [], _, _, j, o, ho => by simp at ho
 | x :: os, j0, h, j, o, ho => by
   simp only [edgesOk, Bool.and_eq_true] at h
   cases j with
   | zero =>
     simp at ho
     subst ho
     intro e he hb
     have := List.all_eq_true.1 h.1 e he
     rw [hb] at this
     simpa using this
   | succ j =>
     intro e he hb
     have := edgesOk_spec h.2 j o (by simpa using ho) e he hb
     omega
theorem mem_pairsAt {bj j cj : Nat} : ∀ {os : List AOper} {i0 p : Nat} {o : AOper}, os[p]? = some o → i0 + p < j → bj.testBit (i0 + p) = false → classOf o.op ≠ 0 → cj ≠ 0 → (classOf o.op = 2 ∨ cj = 2) → (i0 + p, j) ∈ pairsAt bj j cj i0 os
 | [], _, p, o, h, _, _, _, _, _ => by simp at h
 | x :: os, i0, p, o, h, h1, h2, h3, h4, h5 => by
   simp only [pairsAt, List.mem_append]
   cases p with
   | zero =>
     simp at h
     subst h
     left
     rw [Nat.add_zero] at h1 h2
     rw [if_pos ⟨h1, by rw [h2]; rfl, by omega, h3, h4, h5⟩]
     simp
   | succ p =>
     right
     have := mem_pairsAt (bj := bj) (j := j) (cj := cj) (os := os) (i0 := i0 + 1) (p := p) (o := o) (by simpa using h) (by omega) (by rw [show i0 + 1 + p = i0 + (p + 1) by omega]; exact h2) h3 h4 h5
     rw [show i0 + 1 + p = i0 + (p + 1) by omega] at this
     exact this
theorem mem_pairsOf {bs : List Nat} {all : List AOper} {x : Nat × Nat} : ∀ {os : List AOper} {j0 q : Nat} {o : AOper}, os[q]? = some o → x ∈ pairsAt (bs.getD (j0 + q) 0) (j0 + q) (classOf o.op) 0 all → x ∈ pairsOf bs all j0 os
 | [], _, q, o, h, _ => by simp at h
 | y :: os, j0, q, o, h, hx => by
   simp only [pairsOf, List.mem_append]
   cases q with
   | zero =>
     simp at h
     subst h
     exact .inl hx
   | succ q =>
     right
     refine mem_pairsOf (q := q) (o := o) (by simpa using h) ?_
     rw [show j0 + 1 + q = j0 + (q + 1) by omega]
     exact hx
theorem indepAt_spec {bj j : Nat} {o : AOper} : ∀ {os : List AOper} {i0 p : Nat} {x : AOper}, indepAt bj j o i0 os = true → os[p]? = some x → i0 + p < j → bj.testBit (i0 + p) = false → indep x o = true
 | [], _, p, x, _, h, _, _ => by simp at h
 | y :: os, i0, p, x, hi, h, h1, h2 => by
   simp only [indepAt, Bool.and_eq_true] at hi
   cases p with
   | zero =>
     simp at h
     subst h
     have := hi.1
     simp only [Nat.add_zero] at h1 h2
     simp [h1, h2] at this
     exact this
   | succ p => exact indepAt_spec hi.2 (p := p) (by simpa using h) (by omega) (by rw [show i0 + 1 + p = i0 + (p + 1) by omega]; exact h2)
theorem indepOk_spec {bs : List Nat} {all : List AOper} : ∀ {os : List AOper} {j0 q : Nat} {o : AOper}, indepOk bs all j0 os = true → os[q]? = some o → indepAt (bs.getD (j0 + q) 0) (j0 + q) o 0 all = true
 | [], _, q, o, _, h => by simp at h
 | y :: os, j0, q, o, hi, h => by
   simp only [indepOk, Bool.and_eq_true] at hi
   cases q with
   | zero =>
     simp at h
     subst h
     exact hi.1
   | succ q =>
     have := indepOk_spec hi.2 (q := q) (by simpa using h)
     rw [show j0 + 1 + q = j0 + (q + 1) by omega] at this
     exact this
theorem footOf_class0 {Γ : AProg} {base : Nat} {o : AOper} {s s' : St} (h : classOf o.op = 0) : footOfK Γ base o s s' = ([], []) := by
 unfold footOfK
 split
 · obtain ⟨d, op, g⟩ := o
   cases op <;> simp [classOf] at h <;> rfl
 · rfl
theorem footOf_class1 {Γ : AProg} {base : Nat} {o : AOper} {s s' : St} (h : classOf o.op = 1) : (footOfK Γ base o s s').2 = [] := by
 unfold footOfK
 split
 · obtain ⟨d, op, g⟩ := o
   cases op <;> simp [classOf] at h <;> rfl
 · rfl
theorem isCall_class {op : AOp} (h : op.isCall = true) : classOf op = 2 := by
 cases op <;> simp [AOp.isCall] at h <;> rfl
theorem classOf_le (op : AOp) : classOf op = 0 ∨ classOf op = 1 ∨ classOf op = 2 := by
 cases op <;> simp [classOf]
section
variable {R : Nat → ACode → St → Option (AEx × St)} {Γ : AProg} {base clk0 : Nat} {asx : List AOper} {fs : Nat → List Nat × List Nat}
inductive Runs (C : Caller) (Γ : AProg) (base clk0 : Nat) (asx : List AOper) (fs : Nat → List Nat × List Nat) : List Nat → St → St → Prop
 | nil (s : St) : Runs C Γ base clk0 asx fs [] s s
 | cons {i : Nat} {o : AOper} {is : List Nat} {s s1 s2 : St} : asx[i]? = some o → stepA C base (clk0 + i) o s = some s1 → footOfK Γ base o s s1 = fs i → Runs C Γ base clk0 asx fs is s1 s2 → Runs C Γ base clk0 asx fs (i :: is) s s2
structure PairOk (asx : List AOper) (fs : Nat → List Nat × List Nat) (N i j : Nat) : Prop where
 ind : ∀ a b, asx[i]? = some a → asx[j]? = some b → indep a b = true
 calls : ∀ a b, asx[i]? = some a → asx[j]? = some b → a.op.isCall = false ∨ b.op.isCall = false
 apart : Apart (fs i) (fs j)
 left : ∀ b, asx[j]? = some b → b.op.isCall = true → ∀ x ∈ (fs i).1 ++ (fs i).2, x < N
 right : ∀ a, asx[i]? = some a → a.op.isCall = true → ∀ x ∈ (fs j).1 ++ (fs j).2, x < N
theorem stepA_length {gen : Nat} {o : AOper} {s s' : St} (h : stepA (callWith R Γ) base gen o s = some s') : s.h.length ≤ s'.h.length := by
 obtain ⟨t, v, h1, c, _, hd, rfl, _⟩ := stepA_todo h
 cases t with
 | prim op =>
   simp only [doT, Option.map_eq_some_iff, Prod.mk.injEq] at hd
   obtain ⟨⟨v', h'⟩, hd, rfl, rfl, rfl⟩ := hd
   rw [prim_length hd]
   exact Nat.le_refl _
 | call f args => exact (call_out hd).1
theorem Runs.bubble {N j : Nat} {l2 : List Nat} {s' : St} : ∀ {l1 : List Nat} {s : St}, Runs (callWith R Γ) Γ base clk0 asx fs (l1 ++ j :: l2) s s' → (∀ i ∈ l1, PairOk asx fs N i j) → N ≤ s.h.length → Runs (callWith R Γ) Γ base clk0 asx fs (j :: (l1 ++ l2)) s s'
 | [], s, h, _, _ => h
 | i :: l1, s, h, hp, hN => by
   cases h with
   | cons ha hst hf hr =>
     rename_i a s1
     have hlen := stepA_length hst
     have := Runs.bubble hr (fun k hk => hp k (List.mem_cons_of_mem _ hk)) (by omega)
     cases this with
     | cons hb hst2 hf2 hr2 =>
       rename_i b s2
       have hpk := hp i List.mem_cons_self
       obtain ⟨k, e1, e2, e3, e4, e5⟩ := swap_step (hpk.ind a b ha hb) (hpk.calls a b ha hb) hst hst2 (by rw [hf, hf2]; exact hpk.apart)
         (fun hc x hx => Nat.lt_of_lt_of_le (hpk.left b hb hc x (by rw [← hf]; exact hx)) hN) (fun hc x hx => Nat.lt_of_lt_of_le (hpk.right a ha hc x (by rw [← hf2]; exact hx)) hN)
       exact .cons hb e1 (by rw [e3, hf2]) (.cons ha e2 (by rw [e4, hf]) hr2)
theorem Runs.foot {C : Caller} : ∀ {l : List Nat} {s s' : St}, Runs C Γ base clk0 asx fs l s s' → ∀ i ∈ l, ∃ o s1 s2, asx[i]? = some o ∧ fs i = footOfK Γ base o s1 s2
 | [], _, _, _, i, hi => by simp at hi
 | k :: l, s, s', h, i, hi => by
   cases h with
   | cons ha hst hf hr =>
     rename_i o s1
     rcases List.mem_cons.1 hi with rfl | hi
     · exact ⟨o, s, s1, ha, hf.symm⟩
     · exact Runs.foot hr i hi
theorem runFoot_of_ops {C : Caller} : ∀ {os : List AOper} {g : Nat} {s s' : St}, runOps C base g os s = some s' → ∃ l, runFoot C Γ base g os s = some (s', l)
 | [], g, s, s', h => by
   simp only [runOps, Option.some.injEq] at h
   subst h
   exact ⟨[], rfl⟩
 | o :: os, g, s, s', h => by
   simp only [runOps] at h
   split at h
   · rename_i s1 hs
     obtain ⟨l, hl⟩ := runFoot_of_ops h
     exact ⟨_, by simp only [runFoot, hs, hl, Option.map_some]; rfl⟩
   · simp at h
theorem runs_of_foot {C : Caller} : ∀ {os : List AOper} {j : Nat} {s s' : St} {l : List (List Nat × List Nat)}, os = asx.drop j → runFoot C Γ base (clk0 + j) os s = some (s', l) → (∀ (i : Nat) f, l[i]? = some f → fs (j + i) = f) →
   Runs C Γ base clk0 asx fs (List.range' j os.length) s s' ∧ l.length = os.length
 | [], j, s, s', l, ho, h, hf => by
   simp only [runFoot, Option.some.injEq, Prod.mk.injEq] at h
   obtain ⟨rfl, rfl⟩ := h
   exact ⟨.nil _, rfl⟩
 | o :: os, j, s, s', l, ho, h, hf => by
   simp only [runFoot] at h
   split at h
   · rename_i s1 hs
     simp only [Option.map_eq_some_iff, Prod.mk.injEq] at h
     obtain ⟨⟨s2, l'⟩, hr, rfl, rfl⟩ := h
     have hao : asx[j]? = some o := by
       have : (asx.drop j)[0]? = some o := by rw [← ho]; rfl
       simpa using this
     have hd : os = asx.drop (j + 1) := by
       have : (o :: os).tail = (asx.drop j).tail := by rw [ho]
       simpa [List.tail_drop] using this
     obtain ⟨h1, h2⟩ := runs_of_foot (j := j + 1) hd (by rw [← Nat.add_assoc]; exact hr) (fun i f hi => by
       have := hf (i + 1) f (by simpa using hi)
       rw [← this]; congr 1; omega)
     refine ⟨?_, by simp [h2]⟩
     rw [List.length_cons, List.range'_succ]
     refine .cons hao hs ?_ h1
     have := hf 0 _ rfl
     rw [Nat.add_zero] at this
     rw [this]
     rfl
   · simp at h
end
end
end Go.Proofs.YtbeooboebfbchaaGreatDoor.Am
