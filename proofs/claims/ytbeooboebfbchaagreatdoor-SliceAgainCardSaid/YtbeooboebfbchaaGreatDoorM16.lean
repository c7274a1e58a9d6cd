/- Walking code of the abstract machine: calls, and its operations az equations. Functions that are told: slices.Clone, bytealg.IndexByteString. -/
import Derived.IntWalk
import Derived.Attr
import Derived.Lib.Bytealg
import Derived.Laws.Externs
import Derived.Test.YtbeooboebfbchaaGreatDoorM14
import Derived.Test.YtbeooboebfbchaaGreatDoorM15
set_option linter.unusedVariables false
set_option linter.unusedSimpArgs false
namespace Go.Proofs.YtbeooboebfbchaaGreatDoor.Am
open Go
set_option maxRecDepth 100000
section
mutual
def AV.cv : AV → AV
 | .agg cs => .agg (cvL cs)
 | .tup cs => .tup (cvL cs)
 | .sl xs _ => .sl xs .no
 | v => v
def cvL : List AV → List AV
 | [] => []
 | v :: vs => v.cv :: cvL vs
end
mutual
theorem conv_cv {h : List AObj} : ∀ {v : AV}, v.obs = [] → conv h v = some v.cv
 | .agg cs, ho => by
   simp only [conv, AV.cv, convL_cv (by simpa only [AV.obs] using ho), Option.map_some]
 | .tup cs, ho => by
   simp only [conv, AV.cv, convL_cv (by simpa only [AV.obs] using ho), Option.map_some]
 | .ob .., ho => by simp [AV.obs] at ho
 | .sl _ _, _ => rfl
 | .undef, _ => rfl
 | .int .., _ => rfl
 | .bool _, _ => rfl
 | .str _, _ => rfl
 | .ptr .., _ => rfl
 | .iptr .., _ => rfl
 | .nilptr, _ => rfl
 | .mp .., _ => rfl
 | .nilmap, _ => rfl
 | .fn .., _ => rfl
 | .nilfn, _ => rfl
 | .nilif, _ => rfl
 | .bwd .., _ => rfl
theorem convL_cv {h : List AObj} : ∀ {vs : List AV}, obsL vs = [] → convL h vs = some (cvL vs)
 | [], _ => rfl
 | v :: vs, ho => by
   simp only [obsL, List.append_eq_nil_iff] at ho
   simp only [convL, cvL, conv_cv ho.1, convL_cv ho.2]
end
theorem passArgs_cv {h : List AObj} : ∀ {vs : List AV} {i : Nat}, obsL vs = [] → passArgs h [] i vs = some (cvL vs)
 | [], _, _ => rfl
 | v :: vs, i, ho => by
   simp only [obsL, List.append_eq_nil_iff] at ho
   simp only [passArgs, cvL, List.contains_nil, Bool.false_eq_true, if_false, conv_cv ho.1, passArgs_cv ho.2]
theorem lent_nil : ∀ {vs : List AV} {i : Nat}, obsL vs = [] → lentSlots [] i vs = []
 | [], _, _ => rfl
 | v :: vs, i, ho => by
   simp only [obsL, List.append_eq_nil_iff] at ho
   simp only [lentSlots, List.contains_nil, Bool.false_eq_true, if_false, ho.1, lent_nil ho.2, List.append_nil]
theorem mask_len {T : List Nat} : ∀ {h : List AObj} {k : Nat}, (maskFrom T k h).length = h.length
 | [], _ => rfl
 | o :: h, k => by simp [maskFrom, mask_len]
theorem mask_get1 {T : List Nat} : ∀ {h : List AObj} {k i : Nat}, T.contains (k + i) = true → (maskFrom T k h)[i]? = h[i]?
 | [], _, _, _ => rfl
 | o :: h, k, 0, ht => by
   rw [Nat.add_zero] at ht
   simp only [maskFrom, ht, if_true, List.getElem?_cons_zero]
 | o :: h, k, i + 1, ht => by
   simp only [maskFrom, List.getElem?_cons_succ]
   exact mask_get1 (by rw [Nat.add_assoc, Nat.add_comm 1 i]; exact ht)
theorem merge_nil : ∀ {h h' : List AObj} {k : Nat}, mergeFrom [] k h h' = h
 | [], [], _ => rfl
 | [], _ :: _, _ => rfl
 | o :: h, [], _ => rfl
 | o :: h, o' :: h', k => by simp [mergeFrom, merge_nil]
theorem merge_one {s : Nat} : ∀ {h h' : List AObj} {k : Nat} {o : AObj}, s < h.length → h'[s]? = some o → mergeFrom [k + s] k h h' = h.set s o
 | [], h', k, o, hs, _ => by simp at hs
 | a :: h, [], k, o, hs, ho => by simp at ho
 | a :: h, b :: h', k, o, hs, ho => by
   cases s with
   | zero =>
     simp at ho
     subst ho
     have : ∀ {h h' : List AObj} {j : Nat}, k < j → mergeFrom [k] j h h' = h := by
       intro h
       induction h with
       | nil => intro h' j _; cases h' <;> rfl
       | cons x h ih =>
         intro h' j hj
         cases h' with
         | nil => rfl
         | cons y h' =>
           have hne : ¬ j = k := by omega
           simp only [mergeFrom, List.contains_cons, List.contains_nil, Bool.or_false, beq_iff_eq, hne, if_false]
           rw [ih (by omega)]
     simp only [mergeFrom, Nat.add_zero, List.contains_cons, List.contains_nil, Bool.or_false, beq_self_eq_true, if_true, List.set_cons_zero]
     rw [this (by omega)]
   | succ s =>
     have hne : ¬ k = k + (s + 1) := by omega
     simp only [mergeFrom, List.contains_cons, List.contains_nil, Bool.or_false, beq_iff_eq, hne, if_false, List.set_cons_succ]
     rw [show k + (s + 1) = k + 1 + s by omega, merge_one (by simpa using hs) (by simpa using ho)]
def noneOf (T : List Nat) (os : List (Nat × Nat)) : Bool := os.all fun p => !T.contains p.1
def RV (T : List Nat) (x : Option (List AV)) (R : AV → List AObj → Prop) (h : List AObj) : Prop :=
 match x with
 | some vs => ∃ v, conv h (oneOf vs) = some v ∧ v.ids = [] ∧ noneOf T (oneOf vs).obs = true ∧ R v h
 | none => False
def EndP (T : List Nat) (rs : List ARes) (R : AV → List AObj → Prop) : Post := fun e s => (∀ i, e ≠ .exit i) ∧ RV T (resultsA s.h s.ts rs) R s.h
theorem RV_some {T : List Nat} {vs : List AV} {R : AV → List AObj → Prop} {h : List AObj} (ho : (oneOf vs).obs = []) (hi : (oneOf vs).cv.ids = []) : RV T (some vs) R h = R (oneOf vs).cv h := by
 apply propext
 constructor
 · rintro ⟨v, h1, _, _, h2⟩
   rw [conv_cv ho] at h1
   injection h1 with h1
   subst h1
   exact h2
 · exact fun hr => ⟨_, conv_cv ho, hi, by rw [ho]; rfl, hr⟩
section
variable {Γ : AProg}
theorem freeze_get {s : Nat} : ∀ {os : List (Nat × Nat)} {h : List AObj}, os.all (fun p => !([s].contains p.1)) = true → (freezeAll h os)[s]? = h[s]?
 | [], _, _ => rfl
 | o :: os, h, ho => by
   simp only [List.all_cons, Bool.and_eq_true, Bool.not_eq_true'] at ho
   simp only [freezeAll]
   rw [freeze_get (by simpa using ho.2)]
   have hne : o.1 ≠ s := by
     have := ho.1
     simp at this
     exact this
   split
   · rw [List.getElem?_set_ne hne]
   · rfl
theorem EndP_inv {T : List Nat} {rs : List ARes} {R : AV → List AObj → Prop} {e : AEx} {s : St} (h : EndP T rs R e s) : (∀ i, e ≠ .exit i) ∧ ∃ vs v, resultsA s.h s.ts rs = some vs ∧ conv s.h (oneOf vs) = some v ∧ v.ids = [] ∧ noneOf T (oneOf vs).obs = true ∧ R v s.h := by
 obtain ⟨h1, h2⟩ := h
 refine ⟨h1, ?_⟩
 unfold RV at h2
 split at h2
 · rename_i vs hv
   obtain ⟨v, h3, h4, h5, h6⟩ := h2
   exact ⟨vs, v, hv, h3, h4, h5, h6⟩
 · exact h2.elim
theorem EndP_ret {T : List Nat} {rs : List ARes} {R : AV → List AObj → Prop} {ts : Tmps} {h : List AObj} {c : Nat} : EndP T rs R .ret ⟨ts, h, c⟩ = RV T (resultsA h ts rs) R h := by
 simp [EndP]
theorem EndP_norm {T : List Nat} {rs : List ARes} {R : AV → List AObj → Prop} {ts : Tmps} {h : List AObj} {c : Nat} : EndP T rs R .norm ⟨ts, h, c⟩ = RV T (resultsA h ts rs) R h := by
 simp [EndP]
theorem WC_pure {f : Nat} {args az : List AV} {h : List AObj} {clk : Nat} {af : AFun} {Q : AV → List AObj → Nat → Prop} (hext : Γ.ext f = none) (hfn : Γ.fn f = some af) (hb : af.byref = []) (ho : af.owned = false) (hobs : obsL args = []) (has : cvL args = az) (hids : idsL az = [])
   (hw : ∀ (D : List AObj) (B : Nat) (R : AV → List AObj → Prop), D.length = B → (∀ v h', Q v h clk → R v h') → K Γ B af.body [] ⟨entry az, D ++ List.replicate af.nslots .dead, clk⟩ (EndP [] af.results fun v h' => R v h')) : WC Γ f args h clk Q := by
 obtain ⟨k, e, s, he, hend⟩ := hw (maskFrom [] 0 h) _ (fun v _ => Q v h clk) rfl (fun _ _ h => h)
 obtain ⟨hne, vs, v, hr, hc, hv, _, hQ⟩ := EndP_inv hend
 rw [mask_len] at he
 refine ⟨k, v, h, clk, ?_, hQ⟩
 have hp : passArgs h af.byref 0 args = some az := by rw [hb, passArgs_cv hobs, has]
 have hl : lentSlots af.byref 0 args = [] := by rw [hb]; exact lent_nil hobs
 unfold callA callWith
 simp only [hext, hfn, hp, hl, freezeAll, hids, reach, he, ho, Bool.false_eq_true, if_false, hr, hc, merge_nil]
 cases e with
 | exit i => exact absurd rfl (hne i)
 | norm => simp [hv]
 | ret => simp [hv]
theorem callFoot_pure {f : Nat} {args az : List AV} {h : List AObj} {af : AFun} (hfn : Γ.fn f = some af) (hb : af.byref = []) (hobs : obsL args = []) (has : cvL args = az) (hids : idsL az = []) : callFoot Γ f args h = [] := by
 unfold callFoot
 rw [hobs]
 cases Γ.ext f with
 | some _ => rfl
 | none =>
   have hp : passArgs h af.byref 0 args = some az := by rw [hb, passArgs_cv hobs, has]
   simp only [hfn, hp, hids, reach]
   rfl
theorem Pure.of {f : Nat} {args az : List AV} {v : AV} {af : AFun} (hext : Γ.ext f = none) (hfn : Γ.fn f = some af) (hb : af.byref = []) (ho : af.owned = false) (hobs : obsL args = []) (has : cvL args = az) (hids : idsL az = [])
   (hw : ∀ (D : List AObj) (B clk : Nat) (R : AV → List AObj → Prop), D.length = B → (∀ h', R v h') → K Γ B af.body [] ⟨entry az, D ++ List.replicate af.nslots .dead, clk⟩ (EndP [] af.results R)) : Pure Γ f args v := fun h clk => by
 refine ⟨?_, callFoot_pure hfn hb hobs has hids⟩
 obtain ⟨k, v', h', c, he, rfl, rfl, rfl⟩ := WC_pure (Q := fun v' h' c' => v' = v ∧ h' = h ∧ c' = clk) hext hfn hb ho hobs has hids (fun D B R hB hR => hw D B clk R hB (fun h' => hR v h' ⟨rfl, rfl, rfl⟩))
 exact ⟨k, he⟩
theorem mask_get {T : List Nat} : ∀ {h : List AObj} {k i : Nat}, T.contains (k + i) = true → (maskFrom T k h)[i]? = h[i]?
 | [], _, _, _ => rfl
 | o :: h, k, 0, hc => by
   rw [Nat.add_zero] at hc
   simp only [maskFrom, hc, if_true, List.getElem?_cons_zero]
 | o :: h, k, i + 1, hc => by
   simp only [maskFrom, List.getElem?_cons_succ]
   exact mask_get (by rw [Nat.add_assoc, Nat.add_comm 1 i]; exact hc)
theorem WC_ptr {f s : Nat} {args az : List AV} {h : List AObj} {clk : Nat} {af : AFun} {obj : AObj} {Q : AV → List AObj → Nat → Prop} (hext : Γ.ext f = none) (hfn : Γ.fn f = some af) (hb : af.byref = []) (ho : af.owned = false) (hobs : obsL args = []) (has : cvL args = az) (hids : idsL az = [s]) (hs : h[s]? = some obj) (hoi : obj.ids = [])
   (hw : ∀ (D : List AObj) (B : Nat) (R : AV → List AObj → Prop), D.length = B → D[s]? = some obj → s < B → (∀ v h' o', h'[s]? = some o' → o'.ids = [] → Q v (h.set s o') clk → R v h') → K Γ B af.body [] ⟨entry az, D ++ List.replicate af.nslots .dead, clk⟩ (EndP [s] af.results R)) : WC Γ f args h clk Q := by
 have hlt : s < h.length := by
   rw [List.getElem?_eq_some_iff] at hs
   exact hs.1
 have hp : passArgs h af.byref 0 args = some az := by rw [hb, passArgs_cv hobs, has]
 have hl : lentSlots af.byref 0 args = [] := by rw [hb]; exact lent_nil hobs
 obtain ⟨k, e, s1, he, hend⟩ := hw (maskFrom [s] 0 h) _ (fun v h' => ∃ o', h'[s]? = some o' ∧ o'.ids = [] ∧ Q v (h.set s o') clk) rfl (by rw [mask_get (by simp)]; exact hs) (by rw [mask_len]; exact hlt) (fun v h' o' h1 h2 h3 => ⟨o', h1, h2, h3⟩)
 obtain ⟨hne, vs, v, hr, hc, hv, hno, o', h1, h2, hQ⟩ := EndP_inv hend
 rw [mask_len] at he
 refine ⟨k, v, h.set s o', clk, ?_, hQ⟩
 have hreach : reach h (h.length + 1) [] [s] = [s] := by
   simp only [reach, List.contains_nil, Bool.false_eq_true, if_false, hs, Option.map_some, hoi, Option.getD_some, List.nil_append]
   cases h.length <;> rfl
 have hfr : (freezeAll s1.h (oneOf vs).obs)[s]? = some o' := by
   rw [freeze_get (by simpa [noneOf] using hno), h1]
 have hm : mergeFrom [s] 0 h (freezeAll s1.h (oneOf vs).obs) = h.set s o' := by
   have := merge_one (s := s) (h := h) (h' := freezeAll s1.h (oneOf vs).obs) (k := 0) hlt hfr
   rw [Nat.zero_add] at this
   exact this
 unfold callA callWith
 simp only [hext, hfn, hp, hl, freezeAll, hids, hreach, he, ho, Bool.false_eq_true, if_false, hr, hc, List.isEmpty_cons, Bool.and_false, hm]
 have hall : ((v.ids ++ (List.map (fun i => (Option.map AObj.ids (freezeAll s1.h (oneOf vs).obs)[i]?).getD []) [s]).flatten).all fun x => decide (x < h.length)) = true := by
   simp [hv, hfr, h2]
 cases e with
 | exit i => exact absurd rfl (hne i)
 | norm => simp only [hall, if_true]
 | ret => simp only [hall, if_true]
section
variable {h : List AObj} {base g : Nat} {ts : Tmps}
def pickV (h : List AObj) : AV → AV → AV → Option (AV × List AObj)
 | .bool t, a, b => some (if t then a else b, h)
 | _, _, _ => none
def newV (h : List AObj) (slot g : Nat) (v : AV) : Option (AV × List AObj) :=
 if v.cells.isEmpty || !v.def? then none else some (.ptr slot g 0 0, h.set slot (.blk g [v] false false 0))
def loadV (h : List AObj) (sz : Option Nat) : AV → Option (AV × List AObj)
 | .ptr s g i o => match blkAt h s g with
   | some (es, _, _, _) => (es[i]?).bind fun e => (readCells e.cells o sz).map (·, h)
   | none => none
 | .iptr cs o => (readCells cs o sz).map (·, h)
 | _ => none
def storeV (h : List AObj) (sz : Nat) (v : AV) : AV → Option (AV × List AObj)
 | .ptr s g i o => match blkAt h s g with
   | some (es, row, grow, fz) =>
     match es[i]?, (if row then pub h v else some (v, h)) with
     | some e, some (v', h') =>
       if v'.def? = true ∧ v'.cells.length = sz ∧ v'.cells.all AV.one = true ∧ (row = true → fz ≤ i ∧ !(v.obs.map (·.1)).contains s) then
         (splice e.cells o v'.cells).map fun cs => (.undef, h'.set s (.blk g (es.set i (remade e cs)) row grow fz))
       else none
     | _, _ => none
   | none => none
 | _ => none
def addrV (h : List AObj) (o : Nat) : AV → Option (AV × List AObj)
 | .ptr s g i p => some (.ptr s g i (p + o), h)
 | .iptr cs p => some (.iptr cs (p + o), h)
 | _ => none
def nilcV (h : List AObj) : AV → Option (AV × List AObj)
 | .ptr s g i o => some (.ptr s g i o, h)
 | .iptr cs o => some (.iptr cs o, h)
 | _ => none
def fieldV (h : List AObj) (o : Nat) (sz : Option Nat) : AV → Option (AV × List AObj)
 | .agg cs => (readCells cs o sz).map (·, h)
 | _ => none
def tupV (h : List AObj) (i : Nat) : AV → Option (AV × List AObj)
 | .tup cs => (cs[i]?).map (·, h)
 | _ => none
def binV (h : List AObj) (op : BinOp) (t : ETy) (x y : AV) : Option (AV × List AObj) := (binVal op t x y).map (·, h)
def lenV (h : List AObj) (t : LenTy) (x : AV) : Option (AV × List AObj) := (lenVal h t x).map (·, h)
def unV (h : List AObj) (op : UnOp) (x : AV) : Option (AV × List AObj) := (unVal op x).map (·, h)
def cIntV (h : List AObj) (k : IntKind) : AV → Option (AV × List AObj)
 | .int _ n => some (.int k (k.wrap n), h)
 | _ => none
def idxAV (h : List AObj) (esz : Nat) : AV → AV → Option (AV × List AObj)
 | .sl xs _, .int _ i => if 0 ≤ i then match xs[i.toNat]? with
   | some e => if e.cells.length = esz then some (.iptr e.cells 0, h) else none
   | none => none
   else none
 | .ob s g off len, .int _ i => if 0 ≤ i then match blkAt h s g with
   | some (es, true, _, _) => match es[off + i.toNat]? with
     | some e => if i.toNat < len ∧ e.cells.length = esz then some (.ptr s g (off + i.toNat) 0, h) else none
     | none => none
   | _ => none
   else none
 | _, _ => none
def idxSV (h : List AObj) : AV → AV → Option (AV × List AObj)
 | .str s, .int _ i => if 0 ≤ i then (s[i.toNat]?).map fun (b : Nat) => (.int .u8 (Int.ofNat b), h) else none
 | _, _ => none
theorem P_move {x : AOpd} : prim h base g ts (.move x) = some (x.ev ts, h) := (rfl)
theorem P_pick {c a b : AOpd} : prim h base g ts (.pick c a b) = pickV h (c.ev ts) (a.ev ts) (b.ev ts) := by
 simp only [prim]
 cases c.ev ts <;> simp only [pickV]
 rename_i t
 cases t <;> rfl
theorem P_alloc {k : Nat} {z : AV} : prim h base g ts (.alloc k z) = newV h (base + k) g z := (rfl)
theorem P_box {k : Nat} {x : AOpd} : prim h base g ts (.box k x) = newV h (base + k) g (x.ev ts) := (rfl)
theorem P_build {z : List AV} {ps : List (Nat × Nat × AOpd)} : prim h base g ts (.build z ps) = (fillParts z (ps.map fun p => (p.1, p.2.1, p.2.2.ev ts))).map fun cs => (.agg cs, h) := (rfl)
theorem P_load {sz : Option Nat} {a : AOpd} : prim h base g ts (.load sz a) = loadV h sz (a.ev ts) := by
 simp only [prim]; cases a.ev ts <;> rfl
theorem P_store {sz : Nat} {a x : AOpd} : prim h base g ts (.store sz a x) = storeV h sz (x.ev ts) (a.ev ts) := by
 simp only [prim]; cases a.ev ts <;> rfl
theorem P_nilCheck {x : AOpd} : prim h base g ts (.nilCheck x) = nilcV h (x.ev ts) := by
 simp only [prim]; cases x.ev ts <;> rfl
theorem P_binOp {op : BinOp} {t : ETy} {x y : AOpd} : prim h base g ts (.binOp op t x y) = binV h op t (x.ev ts) (y.ev ts) := (rfl)
theorem P_unOp {op : UnOp} {x : AOpd} : prim h base g ts (.unOp op x) = unV h op (x.ev ts) := (rfl)
theorem P_cInt {k : IntKind} {x : AOpd} : prim h base g ts (.cInt k x) = cIntV h k (x.ev ts) := by
 simp only [prim]; cases x.ev ts <;> rfl
theorem P_fieldAddr {x : AOpd} {o : Nat} : prim h base g ts (.fieldAddr x o) = addrV h o (x.ev ts) := by
 simp only [prim]; cases x.ev ts <;> rfl
theorem P_field {x : AOpd} {o : Nat} {sz : Option Nat} : prim h base g ts (.field x o sz) = fieldV h o sz (x.ev ts) := by
 simp only [prim]; cases x.ev ts <;> rfl
theorem P_indexAddr {esz : Nat} {x ix : AOpd} : prim h base g ts (.indexAddr none esz x ix) = idxAV h esz (x.ev ts) (ix.ev ts) := by
 simp only [prim]; cases ix.ev ts <;> cases x.ev ts <;> simp only [idxAV] <;> split <;> rfl
theorem P_indexS {x ix : AOpd} : prim h base g ts (.index none x ix) = idxSV h (x.ev ts) (ix.ev ts) := by
 simp only [prim]; cases ix.ev ts <;> cases x.ev ts <;> simp only [idxSV] <;> split <;> rfl
theorem P_makeFunc {f : Nat} {cap : List AOpd} : prim h base g ts (.makeFunc f cap) = some (.fn f (cap.map (·.ev ts)), h) := (rfl)
theorem P_extract {x : AOpd} {i : Nat} : prim h base g ts (.extract x i) = tupV h i (x.ev ts) := by
 simp only [prim]; cases x.ev ts <;> rfl
theorem P_len {t : LenTy} {x : AOpd} : prim h base g ts (.len t x) = lenV h t (x.ev ts) := (rfl)
theorem P_append {k esz b : Nat} {mu : Bool} {x y : AOpd} : prim h base g ts (.append k esz b mu x y) = appendVal h (base + k) g esz b mu (x.ev ts) (y.ev ts) := (rfl)
theorem P_makeMap {k : Nat} : prim h base g ts (.makeMap k) = some (.mp (base + k) g, h.set (base + k) (.map g [])) := (rfl)
def PP (Γ : AProg) (base : Nat) (x : Option (AV × List AObj)) (dst : Option Nat) (g : Nat) (os : List AOper) (ts : Tmps) (clk : Nat) (ks : List Kf) (Q : Post) : Prop :=
 match x with
 | some (v, h') => O Γ base .plain (g + 1) os ⟨putA ts dst v, h', clk⟩ ks Q
 | none => False
section
variable {clk : Nat} {ks : List Kf} {Q : Post} {os : List AOper} {dst : Option Nat} {m : Md}
theorem PP_some {v : AV} {d : Nat} : PP Γ base (some (v, h)) (some d) g os ts clk ks Q = O Γ base .plain (g + 1) os ⟨upd ts d v, h, clk⟩ ks Q := (rfl)
theorem PP_none {v : AV} : PP Γ base (some (v, h)) none g os ts clk ks Q = O Γ base .plain (g + 1) os ⟨ts, h, clk⟩ ks Q := (rfl)
theorem O_pp {op : AOp} (hop : op.isCall = false) : O Γ base .plain g (⟨dst, op, none⟩ :: os) ⟨ts, h, clk⟩ ks Q = PP Γ base (prim h base g ts op) dst g os ts clk ks Q := O_prim hop
theorem O_move {x : AOpd} {d : Nat} : O Γ base .plain g (⟨some d, .move x, none⟩ :: os) ⟨ts, h, clk⟩ ks Q = O Γ base .plain (g + 1) os ⟨upd ts d (x.ev ts), h, clk⟩ ks Q := O_prim rfl
theorem O_pick {c a b : AOpd} : O Γ base .plain g (⟨dst, (.pick c a b), none⟩ :: os) ⟨ts, h, clk⟩ ks Q = PP Γ base (pickV h (c.ev ts) (a.ev ts) (b.ev ts)) dst g os ts clk ks Q := by rw [O_pp rfl, P_pick]
theorem O_alloc {k : Nat} {z : AV} : O Γ base .plain g (⟨dst, (.alloc k z), none⟩ :: os) ⟨ts, h, clk⟩ ks Q = PP Γ base (newV h (base + k) g z) dst g os ts clk ks Q := by rw [O_pp rfl, P_alloc]
theorem O_box {k : Nat} {x : AOpd} : O Γ base .plain g (⟨dst, (.box k x), none⟩ :: os) ⟨ts, h, clk⟩ ks Q = PP Γ base (newV h (base + k) g (x.ev ts)) dst g os ts clk ks Q := by rw [O_pp rfl, P_box]
theorem O_build {z : List AV} {ps : List (Nat × Nat × AOpd)} : O Γ base .plain g (⟨dst, (.build z ps), none⟩ :: os) ⟨ts, h, clk⟩ ks Q = PP Γ base ((fillParts z (ps.map fun p => (p.1, p.2.1, p.2.2.ev ts))).map fun cs => (.agg cs, h)) dst g os ts clk ks Q := by rw [O_pp rfl, P_build]
theorem O_load {sz : Option Nat} {a : AOpd} : O Γ base .plain g (⟨dst, (.load sz a), none⟩ :: os) ⟨ts, h, clk⟩ ks Q = PP Γ base (loadV h sz (a.ev ts)) dst g os ts clk ks Q := by rw [O_pp rfl, P_load]
theorem O_store {sz : Nat} {a x : AOpd} : O Γ base .plain g (⟨dst, (.store sz a x), none⟩ :: os) ⟨ts, h, clk⟩ ks Q = PP Γ base (storeV h sz (x.ev ts) (a.ev ts)) dst g os ts clk ks Q := by rw [O_pp rfl, P_store]
theorem O_nilCheck {x : AOpd} : O Γ base .plain g (⟨dst, (.nilCheck x), none⟩ :: os) ⟨ts, h, clk⟩ ks Q = PP Γ base (nilcV h (x.ev ts)) dst g os ts clk ks Q := by rw [O_pp rfl, P_nilCheck]
theorem O_binOp {op : BinOp} {t : ETy} {x y : AOpd} : O Γ base .plain g (⟨dst, (.binOp op t x y), none⟩ :: os) ⟨ts, h, clk⟩ ks Q = PP Γ base (binV h op t (x.ev ts) (y.ev ts)) dst g os ts clk ks Q := by rw [O_pp rfl, P_binOp]
theorem O_unOp {op : UnOp} {x : AOpd} : O Γ base .plain g (⟨dst, (.unOp op x), none⟩ :: os) ⟨ts, h, clk⟩ ks Q = PP Γ base (unV h op (x.ev ts)) dst g os ts clk ks Q := by rw [O_pp rfl, P_unOp]
theorem O_cInt {k : IntKind} {x : AOpd} : O Γ base .plain g (⟨dst, (.cInt k x), none⟩ :: os) ⟨ts, h, clk⟩ ks Q = PP Γ base (cIntV h k (x.ev ts)) dst g os ts clk ks Q := by rw [O_pp rfl, P_cInt]
theorem O_fieldAddr {x : AOpd} {o : Nat} : O Γ base .plain g (⟨dst, (.fieldAddr x o), none⟩ :: os) ⟨ts, h, clk⟩ ks Q = PP Γ base (addrV h o (x.ev ts)) dst g os ts clk ks Q := by rw [O_pp rfl, P_fieldAddr]
theorem O_field {x : AOpd} {o : Nat} {sz : Option Nat} : O Γ base .plain g (⟨dst, (.field x o sz), none⟩ :: os) ⟨ts, h, clk⟩ ks Q = PP Γ base (fieldV h o sz (x.ev ts)) dst g os ts clk ks Q := by rw [O_pp rfl, P_field]
theorem O_indexAddr {esz : Nat} {x ix : AOpd} : O Γ base .plain g (⟨dst, (.indexAddr none esz x ix), none⟩ :: os) ⟨ts, h, clk⟩ ks Q = PP Γ base (idxAV h esz (x.ev ts) (ix.ev ts)) dst g os ts clk ks Q := by rw [O_pp rfl, P_indexAddr]
theorem O_indexS {x ix : AOpd} : O Γ base .plain g (⟨dst, (.index none x ix), none⟩ :: os) ⟨ts, h, clk⟩ ks Q = PP Γ base (idxSV h (x.ev ts) (ix.ev ts)) dst g os ts clk ks Q := by rw [O_pp rfl, P_indexS]
theorem O_makeFunc {f : Nat} {cap : List AOpd} : O Γ base .plain g (⟨dst, (.makeFunc f cap), none⟩ :: os) ⟨ts, h, clk⟩ ks Q = PP Γ base (some (.fn f (cap.map (·.ev ts)), h)) dst g os ts clk ks Q := by rw [O_pp rfl, P_makeFunc]
theorem O_extract {x : AOpd} {i : Nat} : O Γ base .plain g (⟨dst, (.extract x i), none⟩ :: os) ⟨ts, h, clk⟩ ks Q = PP Γ base (tupV h i (x.ev ts)) dst g os ts clk ks Q := by rw [O_pp rfl, P_extract]
theorem O_len {t : LenTy} {x : AOpd} : O Γ base .plain g (⟨dst, (.len t x), none⟩ :: os) ⟨ts, h, clk⟩ ks Q = PP Γ base (lenV h t (x.ev ts)) dst g os ts clk ks Q := by rw [O_pp rfl, P_len]
theorem O_append {k esz b : Nat} {mu : Bool} {x y : AOpd} : O Γ base .plain g (⟨dst, (.append k esz b mu x y), none⟩ :: os) ⟨ts, h, clk⟩ ks Q = PP Γ base (appendVal h (base + k) g esz b mu (x.ev ts) (y.ev ts)) dst g os ts clk ks Q := by rw [O_pp rfl, P_append]
theorem O_makeMap {k : Nat} : O Γ base .plain g (⟨dst, (.makeMap k), none⟩ :: os) ⟨ts, h, clk⟩ ks Q = PP Γ base (some (.mp (base + k) g, h.set (base + k) (.map g []))) dst g os ts clk ks Q := by rw [O_pp rfl, P_makeMap]
end
theorem pickV_bool {t : Bool} {a b : AV} : pickV h (.bool t) a b = some (if t then a else b, h) := (rfl)
theorem loadV_iptr {sz : Option Nat} {cs : List AV} {o : Nat} : loadV h sz (.iptr cs o) = (readCells cs o sz).map (·, h) := (rfl)
theorem loadV_ptr {sz : Option Nat} {s q i o : Nat} : loadV h sz (.ptr s q i o) = match blkAt h s q with
   | some (es, _, _, _) => (es[i]?).bind fun e => (readCells e.cells o sz).map (·, h)
   | none => none := rfl
theorem nilcV_ptr {s q i o : Nat} : nilcV h (.ptr s q i o) = some (.ptr s q i o, h) := (rfl)
theorem nilcV_iptr {cs : List AV} {o : Nat} : nilcV h (.iptr cs o) = some (.iptr cs o, h) := (rfl)
theorem addrV_ptr {s q i p o : Nat} : addrV h o (.ptr s q i p) = some (.ptr s q i (p + o), h) := (rfl)
theorem addrV_iptr {cs : List AV} {p o : Nat} : addrV h o (.iptr cs p) = some (.iptr cs (p + o), h) := (rfl)
theorem fieldV_agg {o : Nat} {sz : Option Nat} {cs : List AV} : fieldV h o sz (.agg cs) = (readCells cs o sz).map (·, h) := (rfl)
theorem tupV_tup {i : Nat} {cs : List AV} : tupV h i (.tup cs) = (cs[i]?).map (·, h) := (rfl)
theorem cIntV_int {k j : IntKind} {n : Int} : cIntV h k (.int j n) = some (.int k (k.wrap n), h) := (rfl)
theorem lenV_sl {xs : List AV} {t : Tip} : lenV h .sl (.sl xs t) = some (.int .i64 xs.length, h) := (rfl)
theorem lenV_str {s : List Nat} : lenV h .str (.str s) = some (.int .i64 s.length, h) := (rfl)
theorem lenV_ob {s q o l : Nat} : lenV h .sl (.ob s q o l) = some (.int .i64 l, h) := (rfl)
theorem unV_not {b : Bool} : unV h .not (.bool b) = some (.bool (!b), h) := (rfl)
theorem unV_neg {k : IntKind} {n : Int} : unV h .neg (.int k n) = some (.int k (k.wrap (0 - n)), h) := (rfl)
section
variable {t : ETy} {k : IntKind} {a b : Int}
theorem bv_add : binV h .add t (.int k a) (.int k b) = some (.int k (k.wrap (a + b)), h) := by simp [binV, binVal, binInt]
theorem bv_sub : binV h .sub t (.int k a) (.int k b) = some (.int k (k.wrap (a - b)), h) := by simp [binV, binVal, binInt]
theorem bv_mul : binV h .mul t (.int k a) (.int k b) = some (.int k (k.wrap (a * b)), h) := by simp [binV, binVal, binInt]
theorem bv_quo (hb : b ≠ 0) : binV h .quo t (.int k a) (.int k b) = some (.int k (k.wrap (a.tdiv b)), h) := by simp [binV, binVal, binInt, hb]
theorem bv_rem (hb : b ≠ 0) : binV h .rem t (.int k a) (.int k b) = some (.int k (a.tmod b), h) := by simp [binV, binVal, binInt, hb]
theorem bv_eql : binV h .eql t (.int k a) (.int k b) = some (.bool (decide (a = b)), h) := by simp [binV, binVal, binInt]
theorem bv_neq : binV h .neq t (.int k a) (.int k b) = some (.bool (!decide (a = b)), h) := by simp [binV, binVal, binInt]
theorem bv_lss : binV h .lss t (.int k a) (.int k b) = some (.bool (decide (a < b)), h) := by simp [binV, binVal, binInt]
theorem bv_leq : binV h .leq t (.int k a) (.int k b) = some (.bool (decide (a ≤ b)), h) := by simp [binV, binVal, binInt]
theorem bv_gtr : binV h .gtr t (.int k a) (.int k b) = some (.bool (decide (b < a)), h) := by simp [binV, binVal, binInt]
theorem bv_geq : binV h .geq t (.int k a) (.int k b) = some (.bool (decide (b ≤ a)), h) := by simp [binV, binVal, binInt]
end
section
variable {t : ETy} {a b : List Nat}
theorem sv_eql : binV h .eql t (.str a) (.str b) = some (.bool (decide (a = b)), h) := by simp [binV, binVal, binStr]
theorem sv_neq : binV h .neq t (.str a) (.str b) = some (.bool (!decide (a = b)), h) := by simp [binV, binVal, binStr]
theorem sv_lss : binV h .lss t (.str a) (.str b) = some (.bool (strLess a b), h) := by simp [binV, binVal, binStr]
theorem sv_add (hl : a.length + b.length < 2 ^ 60) : binV h .add t (.str a) (.str b) = some (.str (a ++ b), h) := by
 simp only [binV, binVal, binStr, if_pos hl, Option.map_some]
end
theorem bo_eql {a b : Bool} : binV h .eql (.one .bool) (.bool a) (.bool b) = some (.bool (a == b), h) := by simp [binV, binVal, AV.eqv, AV.eq1]
theorem bo_neq {a b : Bool} : binV h .neq (.one .bool) (.bool a) (.bool b) = some (.bool (!(a == b)), h) := by simp [binV, binVal, AV.eqv, AV.eq1]
theorem idxAV_sl {xs : List AV} {t : Tip} {esz i : Nat} {k : IntKind} {e : AV} (hx : xs[i]? = some e) (he : e.cells.length = esz) : idxAV h esz (.sl xs t) (.int k (i : Int)) = some (.iptr e.cells 0, h) := by
 simp only [idxAV, Int.natCast_nonneg, if_true, Int.toNat_natCast, hx, he]
theorem idxSV_str {s : List Nat} {i b : Nat} {k : IntKind} (hx : s[i]? = some b) : idxSV h (.str s) (.int k (i : Int)) = some (.int .u8 (b : Int), h) := by
 simp only [idxSV, Int.natCast_nonneg, if_true, Int.toNat_natCast, hx, Option.map_some]
 rfl
end
end
theorem upd_at {ts : Tmps} {d j : Nat} {v : AV} : upd ts d v j = bif j == d then v else ts j := by
 unfold upd
 by_cases h : j = d
 · subst h; simp
 · have : (j == d) = false := by simpa using h
   rw [if_neg h, this]; rfl
theorem upd_same {ts : Tmps} {d : Nat} {v : AV} : upd ts d v d = v := by simp [upd]
theorem upd_ne {ts : Tmps} {d j : Nat} {v : AV} (h : (j == d) = false) : upd ts d v j = ts j := by
 have : ¬ j = d := by simpa using h
 simp [upd, this]
theorem ev_tmp {ts : Tmps} {t : Nat} : (AOpd.tmp t).ev ts = ts t := (rfl)
theorem ev_const {ts : Tmps} {v : AV} : (AOpd.const v).ev ts = v := (rfl)
theorem entry_zero {a : AV} {az : List AV} : entry (a :: az) 0 = a := (rfl)
theorem entry_succ {a : AV} {az : List AV} {n : Nat} : entry (a :: az) (n + 1) = entry az n := (rfl)
theorem res_nil {h : List AObj} {ts : Tmps} : resultsA h ts [] = some [] := (rfl)
def rcons (v : AV) : Option (List AV) → Option (List AV)
 | some vs => some (v :: vs)
 | none => none
theorem rcons_some {v : AV} {vs : List AV} : rcons v (some vs) = some (v :: vs) := (rfl)
theorem res_tmp {h : List AObj} {ts : Tmps} {t : Nat} {rs : List ARes} : resultsA h ts (.tmp t :: rs) = rcons (ts t) (resultsA h ts rs) := by
 simp only [resultsA]; cases resultsA h ts rs <;> rfl
theorem oneOf_one {v : AV} : oneOf [v] = v := (rfl)
theorem oneOf_two {v w : AV} {vs : List AV} : oneOf (v :: w :: vs) = .tup (v :: w :: vs) := (rfl)
theorem beq_true {b : Bool} : (b == true) = b := by cases b <;> rfl
theorem beq_false {b : Bool} : (b == false) = !b := by cases b <;> rfl
theorem wrap_i64 {n : Int} (h1 : -9223372036854775808 ≤ n) (h2 : n ≤ 9223372036854775807) : IntKind.i64.wrap n = n := IntWalk.i64_in _ ⟨h1, h2⟩
theorem getD_zero {a d : AV} {l : List AV} : (a :: l).getD 0 d = a := (rfl)
theorem getD_succ {a d : AV} {l : List AV} {n : Nat} : (a :: l).getD (n + 1) d = l.getD n d := (rfl)
theorem cells_int {k : IntKind} {n : Int} : (AV.int k n).cells = [(AV.int k n)] := (rfl)
theorem def_int {k : IntKind} {n : Int} : (AV.int k n).def? = true := (rfl)
theorem one_int {k : IntKind} {n : Int} : (AV.int k n).one = true := (rfl)
theorem remade_int {k : IntKind} {n : Int} {cs : List AV} : remade (AV.int k n) cs = cs.getD 0 .undef := (rfl)
theorem cells_bool {b : Bool} : (AV.bool b).cells = [(AV.bool b)] := (rfl)
theorem def_bool {b : Bool} : (AV.bool b).def? = true := (rfl)
theorem one_bool {b : Bool} : (AV.bool b).one = true := (rfl)
theorem remade_bool {b : Bool} {cs : List AV} : remade (AV.bool b) cs = cs.getD 0 .undef := (rfl)
theorem cells_str {s : List Nat} : (AV.str s).cells = [(AV.str s)] := (rfl)
theorem def_str {s : List Nat} : (AV.str s).def? = true := (rfl)
theorem one_str {s : List Nat} : (AV.str s).one = true := (rfl)
theorem remade_str {s : List Nat} {cs : List AV} : remade (AV.str s) cs = cs.getD 0 .undef := (rfl)
theorem cells_sl {xs : List AV} {t : Tip} : (AV.sl xs t).cells = [(AV.sl xs t)] := (rfl)
theorem def_sl {xs : List AV} {t : Tip} : (AV.sl xs t).def? = true := (rfl)
theorem one_sl {xs : List AV} {t : Tip} : (AV.sl xs t).one = true := (rfl)
theorem remade_sl {xs : List AV} {t : Tip} {cs : List AV} : remade (AV.sl xs t) cs = cs.getD 0 .undef := (rfl)
theorem cells_ob {a b c d : Nat} : (AV.ob a b c d).cells = [(AV.ob a b c d)] := (rfl)
theorem def_ob {a b c d : Nat} : (AV.ob a b c d).def? = true := (rfl)
theorem one_ob {a b c d : Nat} : (AV.ob a b c d).one = true := (rfl)
theorem remade_ob {a b c d : Nat} {cs : List AV} : remade (AV.ob a b c d) cs = cs.getD 0 .undef := (rfl)
theorem cells_ptr {a b c d : Nat} : (AV.ptr a b c d).cells = [(AV.ptr a b c d)] := (rfl)
theorem def_ptr {a b c d : Nat} : (AV.ptr a b c d).def? = true := (rfl)
theorem one_ptr {a b c d : Nat} : (AV.ptr a b c d).one = true := (rfl)
theorem remade_ptr {a b c d : Nat} {cs : List AV} : remade (AV.ptr a b c d) cs = cs.getD 0 .undef := (rfl)
theorem cells_iptr {xs : List AV} {o : Nat} : (AV.iptr xs o).cells = [(AV.iptr xs o)] := (rfl)
theorem def_iptr {xs : List AV} {o : Nat} : (AV.iptr xs o).def? = true := (rfl)
theorem one_iptr {xs : List AV} {o : Nat} : (AV.iptr xs o).one = true := (rfl)
theorem remade_iptr {xs : List AV} {o : Nat} {cs : List AV} : remade (AV.iptr xs o) cs = cs.getD 0 .undef := (rfl)
theorem cells_nilptr  : (AV.nilptr).cells = [(AV.nilptr)] := (rfl)
theorem def_nilptr  : (AV.nilptr).def? = true := (rfl)
theorem one_nilptr  : (AV.nilptr).one = true := (rfl)
theorem remade_nilptr  {cs : List AV} : remade (AV.nilptr) cs = cs.getD 0 .undef := (rfl)
theorem cells_mp {a b : Nat} : (AV.mp a b).cells = [(AV.mp a b)] := (rfl)
theorem def_mp {a b : Nat} : (AV.mp a b).def? = true := (rfl)
theorem one_mp {a b : Nat} : (AV.mp a b).one = true := (rfl)
theorem remade_mp {a b : Nat} {cs : List AV} : remade (AV.mp a b) cs = cs.getD 0 .undef := (rfl)
theorem cells_nilmap  : (AV.nilmap).cells = [(AV.nilmap)] := (rfl)
theorem def_nilmap  : (AV.nilmap).def? = true := (rfl)
theorem one_nilmap  : (AV.nilmap).one = true := (rfl)
theorem remade_nilmap  {cs : List AV} : remade (AV.nilmap) cs = cs.getD 0 .undef := (rfl)
theorem cells_fn {f : Nat} {xs : List AV} : (AV.fn f xs).cells = [(AV.fn f xs)] := (rfl)
theorem def_fn {f : Nat} {xs : List AV} : (AV.fn f xs).def? = true := (rfl)
theorem one_fn {f : Nat} {xs : List AV} : (AV.fn f xs).one = true := (rfl)
theorem remade_fn {f : Nat} {xs : List AV} {cs : List AV} : remade (AV.fn f xs) cs = cs.getD 0 .undef := (rfl)
theorem cells_nilfn  : (AV.nilfn).cells = [(AV.nilfn)] := (rfl)
theorem def_nilfn  : (AV.nilfn).def? = true := (rfl)
theorem one_nilfn  : (AV.nilfn).one = true := (rfl)
theorem remade_nilfn  {cs : List AV} : remade (AV.nilfn) cs = cs.getD 0 .undef := (rfl)
theorem cells_nilif  : (AV.nilif).cells = [(AV.nilif)] := (rfl)
theorem def_nilif  : (AV.nilif).def? = true := (rfl)
theorem one_nilif  : (AV.nilif).one = true := (rfl)
theorem remade_nilif  {cs : List AV} : remade (AV.nilif) cs = cs.getD 0 .undef := (rfl)
theorem cells_agg {cs : List AV} : (AV.agg cs).cells = cs := (rfl)
theorem def_agg {cs : List AV} : (AV.agg cs).def? = true := (rfl)
theorem remade_agg {xs cs : List AV} : remade (.agg xs) cs = .agg cs := (rfl)
attribute [go_sem] cells_int def_int one_int remade_int cells_bool def_bool one_bool remade_bool cells_str def_str one_str remade_str cells_sl def_sl one_sl remade_sl cells_ob def_ob one_ob remade_ob cells_ptr def_ptr one_ptr remade_ptr cells_iptr def_iptr one_iptr remade_iptr cells_nilptr def_nilptr one_nilptr remade_nilptr cells_mp def_mp one_mp remade_mp cells_nilmap def_nilmap one_nilmap remade_nilmap cells_fn def_fn one_fn remade_fn cells_nilfn def_nilfn one_nilfn remade_nilfn cells_nilif def_nilif one_nilif remade_nilif cells_agg def_agg remade_agg
theorem add_plain {f : List Nat × List Nat} : Md.plain.add f = .plain := (rfl)
theorem add_draw {N : Nat} {ops : List AOper} {ps : List (Nat × Nat)} {fs : List (List Nat × List Nat)} {f : List Nat × List Nat} : (Md.draw N ops ps fs).add f = .draw N ops ps (fs ++ [f]) := (rfl)
attribute [go_sem] add_plain add_draw K_seq K_block K_skip_seq K_skip_block K_exit_seq K_exit_block K_ret_seq K_ret_block K_skip_nil K_exit_nil K_ret_nil BK_true BK_false K_cond K_region O_nil_plain
 O_guard gW_bool gW_tup GO_true GO_false O_call O_callv VK_fn PP_some PP_none O_move O_pick O_alloc O_box O_build O_load O_store O_nilCheck O_binOp O_unOp O_cInt O_fieldAddr O_field O_indexAddr O_indexS O_makeFunc O_extract O_len O_append O_makeMap
 upd_at cond_true cond_false ev_tmp ev_const entry_zero entry_succ res_nil rcons_some res_tmp oneOf_one oneOf_two beq_true beq_false EndP_ret EndP_norm
 List.map_cons List.map_nil Option.map_some Option.map_none Option.bind_some Option.bind_none if_true if_false
 pickV_bool loadV_iptr loadV_ptr nilcV_ptr nilcV_iptr addrV_ptr addrV_iptr fieldV_agg tupV_tup cIntV_int lenV_sl lenV_str lenV_ob unV_not unV_neg
 bv_add bv_sub bv_mul bv_eql bv_neq bv_lss bv_leq bv_gtr bv_geq sv_eql sv_neq sv_lss bo_eql bo_neq putA
end
end Go.Proofs.YtbeooboebfbchaaGreatDoor.Am
namespace Go.Proofs.YtbeooboebfbchaaGreatDoor
open Go Go.RowKit
namespace Am
set_option maxRecDepth 100000
noncomputable def GamC : AProg where
 fn f := cFun Tryz.prog backF { byref := [0] } f
 ext _ := none
 iters := []
theorem progC : ProgOk Tryz.prog backF GamC := ⟨fun f af h => ⟨_, h⟩, fun f sem h => by cases h⟩
theorem backOk : BackOk Tryz.prog backF := by
 intro f k hk G I w x cx hr hx himm
 unfold backF at hk
 split at hk
 · rename_i hf
   injection hk with hk
   subst hf; subst hk
   exact back_ints hr hx himm
 · cases hk
theorem iterC : IterAll Tryz.prog GamC := fun k hk => by simp [GamC] at hk
def afClone (z : AV) (esz b : Nat) : AFun :=
 { ntmps := 8, nslots := 2, results := [.tmp 2], byref := [0], owned := false,
   body := (.seq (.region 1 [⟨(some 2), .move (.const (.sl [] .nil)), none⟩] []) (.seq (.seq (.region 2 [⟨(some 3), .move (.tmp 0), none⟩, ⟨(some 4), .binOp .eql .sl (.tmp 3) (.const (.sl [] .nil)), none⟩] []) (.cond (.tmp 4) (.seq (.region 1 [⟨(some 2), .move (.const (.sl [] .nil)), none⟩] []) .ret) .skip)) (.seq (.region 4 [⟨(some 5), .buildSlice 0 false z 0 [], none⟩, ⟨(some 6), .move (.tmp 0), none⟩, ⟨(some 7), .append 1 esz b false (.tmp 5) (.tmp 6), none⟩, ⟨(some 2), .move (.tmp 7), none⟩] []) .ret))) }
theorem fnC77 : GamC.fn 77 = some (afClone (.int .i64 0) 1 8) := by kernel_rfl
theorem fnC78 : GamC.fn 78 = some (afClone (.agg [(.str []), (.int .i64 0)]) 2 24) := by kernel_rfl
theorem fnC79 : GamC.fn 79 = some (afClone (.agg [(.int .i64 0), (.int .i64 0), (.str []), (.str []), (.int .i64 0)]) 5 56) := by kernel_rfl
theorem O_bsC {base g k clk : Nat} {ts : Tmps} {h : List AObj} {z : AV} {dst : Nat} {os : List AOper} {ks : List Kf} {Q : Post} (hz : z.def? = true) : O GamC base .plain g (⟨some dst, .buildSlice k false z 0 [], none⟩ :: os) ⟨ts, h, clk⟩ ks Q = O GamC base .plain (g + 1) os ⟨upd ts dst (.sl [] .full), h, clk⟩ ks Q := by
 rw [O_pp rfl]
 have : prim h base g ts (.buildSlice k false z 0 []) = some (.sl [] .full, h) := by
   simp only [prim, hz, Bool.not_true, Bool.false_eq_true, if_false, List.map_nil, convL, obsL, freezeAll]
   rfl
 rw [this]
 rfl
theorem runClone {f esz b : Nat} {z : AV} {xs : List AV} (hf : GamC.fn f = some (afClone z esz b)) (hz : z.def? = true) (h1 : allCells esz xs = true) (h3 : idsL xs = []) (h2 : xs.length * (b + 1) ≤ 2 ^ 46) : ∃ k, callA GamC k f [.sl xs .nn] [] 0 = some (.sl xs .no, [], 0) := by
 have hext : GamC.ext f = none := rfl
 have heq : ∀ h, binV h .eql .sl (.sl xs .nn) (.sl [] .nil) = some (.bool false, h) := fun h => by cases xs <;> rfl
 have hgt : ¬ (([] : List AV).length + xs.length) * (b + 1) > roomBound := by unfold roomBound; simp; omega
 have happ : ∀ h s g, appendVal h s g esz b false (.sl [] .full) (.sl xs .nn) = some (.sl xs (.at s g), h.set s (.tip g esz)) := fun h s g => by
   have ha : allCells esz [] = true := rfl
   unfold appendVal
   simp only [srcOf, h1, ha, Bool.not_true, Bool.false_eq_true, if_false, decide_eq_true_eq, hgt, Bool.or_false, List.nil_append]
 have hp : passArgs [] [0] 0 [.sl xs .nn] = some [.sl xs .nn] := by simp [passArgs]
 have hl : lentSlots [0] 0 [.sl xs .nn] = [] := by simp [lentSlots]
 have hids : idsL [.sl xs .nn] = [] := by simp [idsL, AV.ids, h3]
 have hK : K GamC 0 (afClone z esz b).body [] ⟨entry [.sl xs .nn], [.dead, .dead], 0⟩ (fun e s => e = .ret ∧ ∃ g, s.ts 2 = .sl xs (.at 1 g)) := by
   simp only [go_sem, Nat.reduceBEq, afClone, heq, O_bsC hz, happ, Nat.zero_add]
   exact ⟨trivial, _, rfl⟩
 obtain ⟨k, e, s, he, rfl, g, hs2⟩ := hK
 refine ⟨k, ?_⟩
 unfold callA callWith
 have hrep : maskFrom [] 0 ([] : List AObj) ++ List.replicate (afClone z esz b).nslots .dead = [.dead, .dead] := rfl
 simp only [hext, hf, show (afClone z esz b).byref = [0] from rfl, hp, hl, hids, reach, freezeAll, List.length_nil, hrep, he, show (afClone z esz b).results = [.tmp 2] from rfl, resultsA, Option.map_some, hs2, oneOf, show (afClone z esz b).owned = false from rfl, Bool.false_eq_true, if_false, conv]
 have hobs : (AV.sl xs (.at 1 g)).obs = [] := rfl
 simp [hobs, freezeAll, AV.ids, h3]
 cases s.h <;> rfl
theorem told_clone {f esz b : Nat} {z : AV} {fn : Func} {c : Code} (hfn : GamC.fn f = some (afClone z esz b)) (hz : z.def? = true)
   (hnil : ∀ n c w, Calls Tryz.prog f #[.slice none n c] w fun e w' => e = .returned (.slice none 0 0) ∧ w' = w) (hf : Tryz.prog.funcs[f]? = some fn) (hb : fn.body = some c) (hn : fn.name ≠ "runtime.NumGoroutine") : told Tryz.prog f (cloneSem esz b) := by
 intro az v hv G I w cargs hargs himm _
 obtain ⟨xs, t, rfl⟩ : ∃ xs t, az = [.sl xs t] := by
   unfold cloneSem at hv
   split at hv
   · exact ⟨_, _, rfl⟩
   · cases hv
 simp only [cloneSem] at hv
 split at hv
 · rename_i hc
   injection hv with hv
   subst hv
   obtain ⟨h1, h3, h2⟩ := hc
   rw [List.isEmpty_iff] at h3
   simp only [VRL] at hargs
   obtain ⟨cv, ws, hcv, hx, rfl⟩ := hargs
   obtain rfl : cargs = #[cv] := by
     cases cargs
     simp_all
   simp only [VR] at hx
   obtain ⟨A, n, cc, rfl, hlen, hnc, _, hrow⟩ := hx
   cases A with
   | none =>
     intro o a next Q hnx
     rw [callFunc_enter hf hb hn, Oper.upon_enter]
     refine (hnil n cc w).mono ?_
     rintro e w' ⟨rfl, rfl⟩
     refine hnx _ _ ⟨I, ILe.refl _, ?_, fun _ _ h => h, rfl, rfl, rfl, Nat.le_refl _, fun _ _ _ h => .inl h⟩
     have hn0 : n = 0 := by
       rcases hrow with h | ⟨_, _, _, h, _⟩
       · exact h
       · cases h
     have : xs = [] := List.length_eq_zero_iff.1 (by omega)
     subst this
     simp only [VR]
     exact ⟨none, 0, 0, rfl, rfl, Nat.le_refl _, trivial, .inl rfl⟩
   | some A =>
     have hargs0 : VRL (fun _ => none) I [.sl xs .nn] [Value.slice (some A) n cc] := by
       refine VRL.keep (n := 0) (G := G) keeps_zero (by simp [idsL, AV.ids, h3]) ?_
       simp only [VRL, VR]
       exact ⟨_, _, rfl, ⟨_, _, _, rfl, hlen, hnc, by simp [TipR], hrow⟩, rfl⟩
     obtain ⟨k, hk⟩ := runClone hfn hz h1 h3 h2
     intro o a next Q hnx
     refine sound_call progC backOk (draw_ok (by kernel_rfl)) iterC k f [.sl xs .nn] [] 0 _ _ _ hk (fun _ => none) I w #[Value.slice (some A) n cc] hargs0 ⟨himm, fun i o ho => by simp at ho, fun i j oi oj b hi => by simp at hi⟩ (fun _ _ => rfl) o a next Q fun cv w' he => hnx cv w' ?_
     obtain ⟨G', I', hv', hran, _⟩ := he
     refine ⟨I', hran.ile, VR.keep (n := 0) keeps_zero (by simp [AV.ids, h3]) hv', fun b y hy => ?_, hran.fr.os, hran.fr.tape, hran.fr.output, hran.fr.size, fun b o v hv => ?_⟩
     · have hb : b < w.heap.size := (Array.getElem?_eq_some_iff.1 hy).1
       rw [hran.fr.kept b hb fun i o hi => by simp at hi]
       exact hy
     · rcases Nat.lt_or_ge b w.heap.size with hb | hb
       · exact .inl (hran.ifr b hb (fun i o hi => by simp at hi) o v hv)
       · exact .inr ⟨hb, hran.rel.imm b o v hv⟩
 · cases hv
theorem eq_nil77 (n c : Nat) (w : World) : (binOp BinOp.eql 22 (Value.slice none n c) (Value.slice none 0 0)).run Tryz.prog w = .ok (.bool true) w := by
 rfl
theorem eq_nil78 (n c : Nat) (w : World) : (binOp BinOp.eql 45 (Value.slice none n c) (Value.slice none 0 0)).run Tryz.prog w = .ok (.bool true) w := by
 rfl
theorem eq_nil79 (n c : Nat) (w : World) : (binOp BinOp.eql 47 (Value.slice none n c) (Value.slice none 0 0)).run Tryz.prog w = .ok (.bool true) w := by
 rfl
theorem nil77 (n c : Nat) (w : World) : Calls Tryz.prog 77 #[.slice none n c] w fun e w' => e = .returned (.slice none 0 0) ∧ w' = w := by
 go_enter Tryz.func77, Tryz.ntmps77
 go_wp2
 rw [eq_nil77]
 go_wp2
 go_ret
 exact ⟨rfl, rfl⟩
theorem nil78 (n c : Nat) (w : World) : Calls Tryz.prog 78 #[.slice none n c] w fun e w' => e = .returned (.slice none 0 0) ∧ w' = w := by
 go_enter Tryz.func78, Tryz.ntmps78
 go_wp2
 rw [eq_nil78]
 go_wp2
 go_ret
 exact ⟨rfl, rfl⟩
theorem nil79 (n c : Nat) (w : World) : Calls Tryz.prog 79 #[.slice none n c] w fun e w' => e = .returned (.slice none 0 0) ∧ w' = w := by
 go_enter Tryz.func79, Tryz.ntmps79
 go_wp2
 rw [eq_nil79]
 go_wp2
 go_ret
 exact ⟨rfl, rfl⟩
theorem told77 : told Tryz.prog 77 (cloneSem 1 8) := told_clone fnC77 rfl nil77 Tryz.func77 rfl (by decide)
theorem told78 : told Tryz.prog 78 (cloneSem 2 24) := told_clone fnC78 rfl nil78 Tryz.func78 rfl (by decide)
theorem told79 : told Tryz.prog 79 (cloneSem 5 56) := told_clone fnC79 rfl nil79 Tryz.func79 rfl (by decide)
theorem u8_eq {a c : Nat} (ha : a < 256) (hc : c < 256) : (UInt8.ofNat a == c.toUInt8) = decide ((a : Int) = (c : Int)) := by
 rw [Bool.eq_iff_iff, decide_eq_true_iff, beq_iff_eq]
 constructor
 · intro h
   have := congrArg UInt8.toNat h
   simp at this
   omega
 · intro h
   have : a = c := by omega
   subst this
   rfl
theorem index_eq {c : Nat} (hc : c < 256) : ∀ {s : List Nat}, (∀ b ∈ s, b < 256) → Lib.indexByte (s.map UInt8.ofNat) c.toUInt8 = (match s.findIdx? (fun (b : Nat) => decide ((b : Int) = (c : Int))) with | some i => (i : Int) | none => -1)
 | [], _ => rfl
 | a :: s, h => by
   have ih := index_eq hc (s := s) fun b hb => h b (List.mem_cons_of_mem _ hb)
   have ha := u8_eq (h a List.mem_cons_self) hc
   rw [List.map_cons, Lib.indexByte, ha, ih, List.findIdx?_cons]
   by_cases hd : (a : Int) = (c : Int)
   · simp [hd]
   · cases hs : s.findIdx? (fun (b : Nat) => decide ((b : Int) = (c : Int))) with
     | none => simp [hd, hs]
     | some i =>
       have : ((i : Int) == -1) = false := by simp
       simp [hd, this]
theorem told303 : told Tryz.prog 303 idxSem := by
 intro az v hv G I w cargs hargs himm _
 obtain ⟨s, c, rfl⟩ : ∃ s c, az = [.str s, .int .u8 c] := by
   unfold idxSem at hv
   split at hv
   · exact ⟨_, _, rfl⟩
   · cases hv
 simp only [idxSem] at hv
 split at hv
 · rename_i hc
   injection hv with hv
   subst hv
   simp only [VRL, VR] at hargs
   obtain ⟨v1, w1, h1, ⟨rfl, hb⟩, v2, w2, rfl, rfl, rfl⟩ := hargs
   obtain rfl : cargs = #[.string (baOf s), .int .u8 c] := by
     cases cargs
     simp_all
   intro o a next Q hnx
   rw [run_callFunc_extern (fn := Tryz.f303) Tryz.func303 (by kernel_rfl) (by kernel_rfl) (by kernel_rfl) (e := Extern.BytealgIndexByte.indexByte) (by kernel_rfl), Lib.run_indexByteString]
   simp only [Result.andThen]
   rw [Oper.upon_value]
   refine hnx _ _ ⟨I, ILe.refl _, ?_, fun _ _ h => h, rfl, rfl, rfl, Nat.le_refl _, fun _ _ _ h => .inl h⟩
   simp only [VR]
   obtain ⟨n, rfl⟩ : ∃ n : Nat, c = (n : Int) := ⟨c.toNat, by omega⟩
   have hn : n < 256 := by omega
   have := index_eq hn hb
   simp only [Int.toNat_natCast, baOf]
   rw [this]
   rfl
 · cases hv
end Am
end Go.Proofs.YtbeooboebfbchaaGreatDoor
