/- Walking: frames with objects of their own, and the generator's choices. Walking: slices that are built and grown, and the program's data as values. Walking: terms are joined. -/
import Derived.Test.YtbeooboebfbchaaGreatDoorM30
set_option linter.unusedVariables false
set_option linter.unusedSimpArgs false
namespace Go.Proofs.YtbeooboebfbchaaGreatDoor.Am
open Go
set_option maxRecDepth 100000
section
variable {D L : List AObj} {B k g : Nat} {o : AObj}
theorem loc_set (hB : D.length = B) : (D ++ L).set (B + k) o = D ++ L.set k o := by
 subst hB
 rw [List.set_append_right _ _ (by omega)]
 congr 2
 omega
theorem loc_get (hB : D.length = B) : (D ++ L)[B + k]? = L[k]? := by
 subst hB
 rw [List.getElem?_append_right (by omega)]
 congr 1
 omega
theorem loc_blk (hB : D.length = B) : blkAt (D ++ L) (B + k) g = blkAt L k g := by
 unfold blkAt
 rw [loc_get hB]
theorem loc_map (hB : D.length = B) : mapAt (D ++ L) (B + k) g = mapAt L k g := by
 unfold mapAt
 rw [loc_get hB]
theorem out_set {s : Nat} (hB : D.length = B) (h : s < B) : (D ++ L).set s o = D.set s o ++ L := List.set_append_left _ _ (hB ▸ h)
theorem out_get {s : Nat} (hB : D.length = B) (h : s < B) : (D ++ L)[s]? = D[s]? := List.getElem?_append_left (hB ▸ h)
theorem out_blk {s : Nat} (hB : D.length = B) (h : s < B) : blkAt (D ++ L) s g = blkAt D s g := by
 unfold blkAt
 rw [out_get hB h]
theorem set_blk {s : Nat} {es : List AV} {r w : Bool} {z : Nat} (hB : D.length = B) (h : s < B) : blkAt (D.set s (.blk g es r w z) ++ L) s g = some (es, r, w, z) := by
 rw [out_blk (B := B) (by rw [List.length_set]; exact hB) h]
 subst hB
 simp [blkAt, h]
theorem set_set {s : Nat} {o' : AObj} (hB : D.length = B) (h : s < B) : (D.set s o ++ L).set s o' = D.set s o' ++ L := by
 rw [out_set (B := B) (by rw [List.length_set]; exact hB) h, List.set_set]
theorem blk_zero {os : List AObj} {es : List AV} {r w : Bool} {z : Nat} : blkAt (.blk g es r w z :: os) 0 g = some (es, r, w, z) := by simp [blkAt]
theorem blk_succ {os : List AObj} : blkAt (o :: os) (k + 1) g = blkAt os k g := by simp [blkAt]
theorem blk_at {s : Nat} {es : List AV} {r w : Bool} {z : Nat} (h : D[s]? = some (.blk g es r w z)) : blkAt D s g = some (es, r, w, z) := by simp [blkAt, h]
theorem map_zero {os : List AObj} {es : List (AV × AV)} : mapAt (.map g es :: os) 0 g = some es := by simp [mapAt]
theorem map_succ {os : List AObj} : mapAt (o :: os) (k + 1) g = mapAt os k g := by simp [mapAt]
theorem newV_ok {h : List AObj} {s : Nat} {v : AV} (hc : (v.cells.isEmpty || !v.def?) = false) : newV h s g v = some (.ptr s g 0 0, h.set s (.blk g [v] false false 0)) := by
 unfold newV
 rw [hc]
 rfl
theorem storeV_ptr {h : List AObj} {s i o sz : Nat} {v : AV} : storeV h sz v (.ptr s g i o) = match blkAt h s g with
   | some (es, row, grow, fz) =>
     match es[i]?, (if row then pub h v else some (v, h)) with
     | some e, some (v', h') =>
       if v'.def? = true ∧ v'.cells.length = sz ∧ v'.cells.all AV.one = true ∧ (row = true → fz ≤ i ∧ !(v.obs.map (·.1)).contains s) then
         (splice e.cells o v'.cells).map fun cs => (.undef, h'.set s (.blk g (es.set i (remade e cs)) row grow fz))
       else none
     | _, _ => none
   | none => none := rfl
theorem storeV_one {h : List AObj} {s o sz : Nat} {v e : AV} (hb : blkAt h s g = some ([e], false, false, 0)) (hv : v.def? = true) (hl : v.cells.length = sz) (ho : v.cells.all AV.one = true) (hs : o + sz ≤ e.cells.length) :
   storeV h sz v (.ptr s g 0 o) = some (.undef, h.set s (.blk g [remade e (e.cells.take o ++ v.cells ++ e.cells.drop (o + sz))] false false 0)) := by
 rw [storeV_ptr, hb]
 simp only [List.getElem?_cons_zero, Bool.false_eq_true, if_false, hv, hl, ho, true_and, false_implies, and_self, if_true, splice, hs, List.set_cons_zero, Option.map_some]
end
theorem readC_none {cs : List AV} {o : Nat} : readCells cs o none = cs[o]? := (rfl)
theorem readC_some {cs : List AV} {o n : Nat} : readCells cs o (some n) = if o + n ≤ cs.length then some (.agg ((cs.drop o).take n)) else none := (rfl)
attribute [go_sem] storeV_ptr newV splice List.all_cons List.all_nil Bool.and_true Bool.true_and Bool.and_self List.isEmpty_cons Bool.not_true Bool.not_false Bool.or_self Bool.or_false Bool.false_or Bool.false_eq_true false_implies true_and and_true and_self List.singleton_append List.cons_append List.nil_append readC_none readC_some List.length_cons List.length_nil List.drop_zero List.drop_succ_cons List.take_succ_cons List.take_zero List.take_nil loc_set loc_blk loc_map blk_zero blk_succ map_zero map_succ List.replicate_succ List.replicate_zero List.set_cons_zero List.set_cons_succ List.getElem?_cons_zero List.getElem?_cons_succ cvL AV.cv
def ints (l : List Int) : List AV := l.map fun n => .int .i64 n
def chObj (g : Nat) (l : List Int) (i : Nat) : AObj := .blk g [.agg [.sl (ints l) .no, .int .i64 i]] false false 0
def ChOk (l : List Int) : Prop := l.length ≤ 400 ∧ ∀ z ∈ l, -9223372036854775808 ≤ z ∧ z ≤ 9223372036854775807
theorem ids_ints {l : List Int} : idsL (ints l) = [] := by
 induction l with
 | nil => rfl
 | cons a l ih => simpa [ints, idsL, AV.ids] using ih
theorem chObj_ids {g i : Nat} {l : List Int} : (chObj g l i).ids = [] := by simp [chObj, AObj.ids, idsL, AV.ids, ids_ints]
theorem ints_len {l : List Int} : (ints l).length = l.length := List.length_map _
theorem ints_get {l : List Int} {i : Nat} (h : i < l.length) : (ints l)[i]? = some (.int .i64 l[i]) := by simp [ints, h]
theorem idx_ints {l : List Int} {i : Nat} {h : List AObj} {t : Tip} {k : IntKind} (hi : i < l.length) : idxAV h 1 (.sl (ints l) t) (.int k (i : Int)) = some (.iptr [.int .i64 l[i]] 0, h) := idxAV_sl (ints_get hi) rfl
def GenOk (l : List Int) (f : Nat) (args : List AV) (R : AV → Prop) : Prop :=
 ∀ h s g i clk (Q : AV → List AObj → Nat → Prop), h[s]? = some (chObj g l i) → i ≤ l.length → (∀ v i', i' ≤ l.length → R v → Q v (h.set s (chObj g l i')) clk) →
   WC Gam f (.ptr s g 0 0 :: args) h clk Q ∧ callFoot Gam f (.ptr s g 0 0 :: args) h = [s]
theorem GenOk.of {l : List Int} {f : Nat} {args az : List AV} {af : AFun} {R : AV → Prop} (hext : Gam.ext f = none) (hfn : Gam.fn f = some af) (hb : af.byref = []) (ho : af.owned = false) (hobs : obsL args = []) (has : cvL args = az) (hids : idsL az = [])
   (hw : ∀ (D : List AObj) (B s g i clk : Nat) (T : AV → List AObj → Prop), D.length = B → s < B → D[s]? = some (chObj g l i) → i ≤ l.length → (∀ v h' i', h'[s]? = some (chObj g l i') → i' ≤ l.length → R v → T v h') →
     K Gam B af.body [] ⟨entry (.ptr s g 0 0 :: az), D ++ List.replicate af.nslots .dead, clk⟩ (EndP [s] af.results T)) : GenOk l f args R := by
 intro h s g i clk Q hs hi hQ
 have hobs' : obsL (.ptr s g 0 0 :: args) = [] := by simp [obsL, AV.obs, hobs]
 have has' : cvL (.ptr s g 0 0 :: args) = .ptr s g 0 0 :: az := by simp [cvL, AV.cv, has]
 have hids' : idsL (.ptr s g 0 0 :: az) = [s] := by simp [idsL, AV.ids, hids]
 refine ⟨?_, ?_⟩
 · refine WC_ptr hext hfn hb ho hobs' has' hids' hs chObj_ids fun D B T hB hD hlt hT => hw D B s g i clk T hB hlt hD hi fun v h' i' h1 h2 h3 => hT v h' _ h1 chObj_ids (hQ v i' h2 h3)
 · unfold callFoot
   have hp : passArgs h af.byref 0 (.ptr s g 0 0 :: args) = some (.ptr s g 0 0 :: az) := by rw [hb, passArgs_cv hobs', has']
   simp only [hext, hfn, hp, hobs', hids', List.map_nil, List.nil_append, reach, List.contains_nil, Bool.false_eq_true, if_false, hs, Option.map_some, chObj_ids, Option.getD_some]
   cases h.length <;> rfl
theorem apart_mono {f g f' g' : List Nat × List Nat} (hf1 : ∀ x ∈ f'.1, x ∈ f.1) (hf2 : ∀ x ∈ f'.2, x ∈ f.2) (hg1 : ∀ x ∈ g'.1, x ∈ g.1) (hg2 : ∀ x ∈ g'.2, x ∈ g.2) (h : apart f g = true) : apart f' g' = true := by
 simp only [apart, disjoint, Bool.and_eq_true, List.all_eq_true, Bool.not_eq_true', List.contains_eq_mem, decide_eq_false_iff_not] at h ⊢
 exact ⟨⟨fun x hx hy => h.1.1 x (hf2 x hx) (hg1 x hy), fun x hx hy => h.1.2 x (hf2 x hx) (hg2 x hy)⟩, fun x hx hy => h.2 x (hg2 x hx) (hf1 x hy)⟩
def FeetLe (fs gs : List (List Nat × List Nat)) : Prop := fs.length = gs.length ∧ ∀ i, (∀ x ∈ (fs.getD i ([], [])).1, x ∈ (gs.getD i ([], [])).1) ∧ (∀ x ∈ (fs.getD i ([], [])).2, x ∈ (gs.getD i ([], [])).2)
theorem drawOk_mono {N : Nat} {ops : List AOper} {fs gs : List (List Nat × List Nat)} {ps : List (Nat × Nat)} (hl : FeetLe fs gs) (h : drawOk N ops gs ps = true) : drawOk N ops fs ps = true := by
 unfold drawOk at h ⊢
 rw [List.all_eq_true] at h ⊢
 intro p hp
 have := h p hp
 simp only [Bool.and_eq_true, Bool.or_eq_true] at this ⊢
 refine ⟨apart_mono (hl.2 p.1).1 (hl.2 p.1).2 (hl.2 p.2).1 (hl.2 p.2).2 this.1, this.2.imp id fun h2 => ?_⟩
 rw [List.all_eq_true] at h2 ⊢
 intro x hx
 refine h2 x ?_
 simp only [footAt, List.mem_append] at hx ⊢
 rcases hx with (hx | hx) | (hx | hx)
 · exact .inl (.inl ((hl.2 p.1).1 x hx))
 · exact .inl (.inr ((hl.2 p.1).2 x hx))
 · exact .inr (.inl ((hl.2 p.2).1 x hx))
 · exact .inr (.inr ((hl.2 p.2).2 x hx))
theorem FeetLe.mid {fs gs : List (List Nat × List Nat)} {f f' : List Nat × List Nat} (h1 : ∀ x ∈ f.1, x ∈ f'.1) (h2 : ∀ x ∈ f.2, x ∈ f'.2) : FeetLe (fs ++ [f] ++ gs) (fs ++ [f'] ++ gs) := by
 refine ⟨by simp, fun i => ?_⟩
 simp only [List.getD_eq_getElem?_getD, List.append_assoc, List.cons_append, List.nil_append]
 rcases Nat.lt_trichotomy i fs.length with h | h | h
 · rw [List.getElem?_append_left h, List.getElem?_append_left h]
   exact ⟨fun x hx => hx, fun x hx => hx⟩
 · subst h
   simp only [List.getElem?_append_right (Nat.le_refl _), Nat.sub_self, List.getElem?_cons_zero, Option.getD_some]
   exact ⟨h1, h2⟩
 · obtain ⟨j, rfl⟩ : ∃ j, i = fs.length + (j + 1) := ⟨i - fs.length - 1, by omega⟩
   rw [List.getElem?_append_right (by omega), List.getElem?_append_right (by omega), show fs.length + (j + 1) - fs.length = j + 1 by omega]
   exact ⟨fun x hx => hx, fun x hx => hx⟩
theorem O_feet {base g : Nat} {os : List AOper} {s : St} {ks : List Kf} {Q : Post} {m : Md} {f f' : List Nat × List Nat} (h1 : ∀ x ∈ f.1, x ∈ f'.1) (h2 : ∀ x ∈ f.2, x ∈ f'.2) (h : O Gam base (m.add f') g os s ks Q) : O Gam base (m.add f) g os s ks Q := by
 obtain ⟨k, s', fs, h3, h4, h5⟩ := h
 refine ⟨k, s', fs, h3, ?_, h5⟩
 cases m with
 | plain => exact h4
 | draw N ops ps gs =>
   simp only [Md.add, adds_draw, Md.ok] at h4 ⊢
   exact drawOk_mono (FeetLe.mid h1 h2) h4
theorem CK_gen {l : List Int} {f base B s g i clk gg : Nat} {args : List AV} {R : AV → Prop} {D L : List AObj} {m : Md} {dst : Option Nat} {os : List AOper} {ts : Tmps} {ks : List Kf} {Q : Post} (hg : GenOk l f args R) (hB : D.length = B) (hs : s < B) (hD : D[s]? = some (chObj g l i)) (hi : i ≤ l.length)
   (hQ : ∀ v D' i', R v → D'.length = B → D'[s]? = some (chObj g l i') → i' ≤ l.length → O Gam base (m.add ([s], [s])) (gg + 1) os ⟨putA ts dst v, D' ++ L, clk⟩ ks Q) : CK Gam base f (.ptr s g 0 0 :: args) (D ++ L) clk m dst gg os ts ks Q := by
 unfold CK
 have hD' : (D ++ L)[s]? = some (chObj g l i) := by rw [out_get hB hs]; exact hD
 obtain ⟨_, hf⟩ := hg (D ++ L) s g i clk (fun _ _ _ => True) hD' hi (fun _ _ _ _ => trivial)
 refine (hg (D ++ L) s g i clk _ hD' hi fun v i' hi' hv => ?_).1
 refine O_feet (f' := ([s], [s])) ?_ ?_ ?_
 · rw [hf]; exact fun x hx => hx
 · rw [hf]; exact fun x hx => (List.mem_filter.1 hx).1
 · rw [out_set hB hs]
   exact hQ v _ i' hv (by rw [List.length_set]; exact hB) (by subst hB; simp [hs]) hi'
theorem u64_wrap {z : Int} : IntKind.u64.wrap z = z % 18446744073709551616 := by simp [IntKind.wrap, IntKind.signed, IntKind.bits]
theorem pure60 {z n : Int} (hn : 0 < n) (hn2 : n < 2 ^ 62) : ∃ r : Int, 0 ≤ r ∧ r < n ∧ Pure Gam 60 [.int .i64 z, .int .i64 n] (.int .i64 r) := by
 have hw : 0 ≤ IntKind.u64.wrap z := by rw [u64_wrap]; omega
 have hwn : IntKind.u64.wrap n = n := by rw [u64_wrap]; omega
 have h1 : 0 ≤ (IntKind.u64.wrap z).tmod n := Int.tmod_nonneg _ hw
 have h2 : (IntKind.u64.wrap z).tmod n < n := Int.tmod_lt_of_pos _ hn
 refine ⟨(IntKind.u64.wrap z).tmod n, h1, h2, Pure.of rfl fn60 rfl rfl rfl rfl rfl fun D B clk T hB hT => ?_⟩
 simp only [go_sem, Nat.reduceBEq, af60, hwn]
 rw [bv_rem (by omega)]
 simp only [go_sem, Nat.reduceBEq, ]
 rw [RV_some rfl rfl, wrap_i64 (by omega) (by omega)]
 exact hT _
theorem gen30 {l : List Int} {n : Int} (hl : ChOk l) (hn : 0 < n) (hn2 : n < 2 ^ 62) : GenOk l 30 [.int .i64 n] fun v => ∃ r : Int, v = .int .i64 r ∧ 0 ≤ r ∧ r < n := by
 refine GenOk.of rfl fn30 rfl rfl rfl rfl rfl fun D B s g i clk T hB hs hD hi hT => ?_
 have hb := blk_at (g := g) hD
 simp only [go_sem, Nat.reduceBEq, Nat.reduceAdd, Nat.reduceLeDiff, Nat.reduceSub, reduceCtorEq, ↓reduceIte, af30, out_blk hB hs, hb, ints_len]
 refine BK_of (fun hc => ?_) (fun hc => ?_)
 · simp only [go_sem, Nat.reduceBEq, Nat.reduceAdd, Nat.reduceLeDiff, Nat.reduceSub, reduceCtorEq, ↓reduceIte, out_blk hB hs, hb, ints_len]
   rw [RV_some rfl rfl]
   exact hT _ _ i (by rw [out_get hB hs]; exact hD) hi ⟨0, rfl, by omega, by omega⟩
 · have hlt : i < l.length := by simpa using hc
   have hl400 := hl.1
   have e0 : IntKind.i64.wrap ((i : Int) + 1) = (i : Int) + 1 := wrap_i64 (by omega) (by omega)
   have e1 : IntKind.i64.wrap ((i : Int) + 1 - 1) = (i : Int) := by rw [wrap_i64 (by omega) (by omega)]; omega
   simp only [go_sem, Nat.reduceBEq, Nat.reduceAdd, Nat.reduceLeDiff, Nat.reduceSub, reduceCtorEq, ↓reduceIte, out_blk hB hs, hb, ints_len, e0, e1, out_set hB hs, set_blk hB hs, idx_ints hlt]
   obtain ⟨r, h1, h2, hp⟩ := pure60 (z := l[i]) hn hn2
   rw [CK_pure hp]
   simp only [go_sem, Nat.reduceBEq, Nat.reduceAdd, Nat.reduceLeDiff, Nat.reduceSub, reduceCtorEq, ↓reduceIte, Md.add]
   rw [RV_some rfl rfl]
   exact hT _ _ (i + 1) (by rw [out_get (by rw [List.length_set]; exact hB) hs]; subst hB; simp [hs, chObj]) (by omega) ⟨r, rfl, h1, h2⟩
theorem gen52 {l : List Int} : GenOk l 52 [] fun v => ∃ b : Bool, v = .bool b := by
 refine GenOk.of rfl fn52 rfl rfl rfl rfl rfl fun D B s g i clk T hB hs hD hi hT => ?_
 have hb := blk_at (g := g) hD
 simp only [go_sem, Nat.reduceBEq, Nat.reduceAdd, ↓reduceIte, af52, out_blk hB hs, hb, ints_len]
 rw [RV_some rfl rfl]
 exact hT _ _ i (by rw [out_get hB hs]; exact hD) hi ⟨_, rfl⟩
section
variable {h : List AObj} {base g k : Nat} {ts : Tmps} {z : AV}
theorem bs_all {n : Nat} {ps : List (Nat × AOpd)} (hz : z.def? = true) (hp : ps.map (·.1) = List.range n) (ho : obsL (ps.map fun p => p.2.ev ts) = [])
   (hv : ∀ v ∈ cvL (ps.map fun p => p.2.ev ts), v.def? = true ∧ v.cells.length = z.cells.length) : prim h base g ts (.buildSlice k false z n ps) = some (.sl (cvL (ps.map fun p => p.2.ev ts)) .full, h) := by
 have key : ∀ (vs es : List AV) (j : Nat), (∀ v ∈ vs, v.def? = true ∧ v.cells.length = z.cells.length) → es.length = j + vs.length → setParts z.cells.length es ((List.range vs.length).map (· + j)) vs = some (es.take j ++ vs) := by
   intro vs
   induction vs with
   | nil => intro es j _ hl; simp [setParts]; rw [List.take_of_length_le (by simp at hl; omega)]
   | cons v vs ih =>
     intro es j hv hl
     have hlt : j < es.length := by simp at hl; omega
     have h1 := hv v List.mem_cons_self
     rw [List.length_cons, List.range_succ_eq_map]
     simp only [List.map_cons, List.map_map, Nat.zero_add, setParts, hlt, h1, and_self, if_true]
     have := ih (es.set j v) (j + 1) (fun w hw => hv w (List.mem_cons_of_mem _ hw)) (by simp at hl ⊢; omega)
     rw [show (List.range vs.length).map ((fun x => x + j) ∘ Nat.succ) = (List.range vs.length).map (· + (j + 1)) from List.map_congr_left fun a _ => by simp only [Function.comp]; omega, this]
     congr 1
     rw [List.take_add_one, List.getElem?_set_self (by omega), List.take_set_of_le (Nat.le_refl _)]
     simp
 have hn : n = (cvL (ps.map fun p => p.2.ev ts)).length := by
   have h1 := congrArg List.length hp
   simp only [List.length_map, List.length_range] at h1
   have h2 : ∀ l : List AV, (cvL l).length = l.length := fun l => by induction l with
     | nil => rfl
     | cons a l ih => simp [cvL, ih]
   rw [h2, List.length_map, h1]
 have h3 := key _ (List.replicate n z) 0 hv (by rw [List.length_replicate]; omega)
 rw [← hn] at h3
 simp only [Nat.add_zero, List.map_id', List.take_zero, List.nil_append] at h3
 simp only [prim, hz, Bool.not_true, Bool.false_eq_true, if_false, convL_cv ho, hp, h3, ho, freezeAll, Option.map_some]
def bsV (h : List AObj) (z : AV) (n : Nat) (js : List Nat) (vs : List AV) : Option (AV × List AObj) :=
 if !z.def? then none else match convL h vs with
   | some ws => (setParts z.cells.length (List.replicate n z) js ws).map fun es => (.sl es .full, freezeAll h (obsL vs))
   | none => none
theorem P_bs {n : Nat} {ps : List (Nat × AOpd)} : prim h base g ts (.buildSlice k false z n ps) = bsV h z n (ps.map (·.1)) (ps.map fun p => p.2.ev ts) := by
 simp only [prim, bsV, Bool.false_eq_true, if_false]
 rfl
section
variable {v v2 v3 v4 : AV}
theorem bsV1 (hz : z.def? = true) (ho : v.obs = []) (hd : v.cv.def? = true) (hl : v.cv.cells.length = z.cells.length) : bsV h z 1 [0] [v] = some (.sl [v.cv] .full, h) := by
 have := bs_all (h := h) (base := 0) (g := 0) (k := 0) (ts := fun _ => v) (z := z) (n := 1) (ps := [(0, .const v)]) hz rfl (by simp [obsL, ho, AOpd.ev]) (by simp [cvL, hd, hl, AOpd.ev])
 rw [P_bs] at this
 simpa [cvL, AOpd.ev] using this
theorem bsV2 (hz : z.def? = true) (ho : v.obs = []) (hd : v.cv.def? = true) (hl : v.cv.cells.length = z.cells.length) (ho2 : v2.obs = []) (hd2 : v2.cv.def? = true) (hl2 : v2.cv.cells.length = z.cells.length) : bsV h z 2 [0, 1] [v, v2] = some (.sl [v.cv, v2.cv] .full, h) := by
 have := bs_all (h := h) (base := 0) (g := 0) (k := 0) (ts := fun _ => v) (z := z) (n := 2) (ps := [(0, .const v), (1, .const v2)]) hz rfl (by simp [obsL, ho, ho2, AOpd.ev]) (by simp [cvL, hd, hl, hd2, hl2, AOpd.ev])
 rw [P_bs] at this
 simpa [cvL, AOpd.ev] using this
theorem bsV3 (hz : z.def? = true) (ho : v.obs = []) (hd : v.cv.def? = true) (hl : v.cv.cells.length = z.cells.length) (ho2 : v2.obs = []) (hd2 : v2.cv.def? = true) (hl2 : v2.cv.cells.length = z.cells.length) (ho3 : v3.obs = []) (hd3 : v3.cv.def? = true) (hl3 : v3.cv.cells.length = z.cells.length) : bsV h z 3 [0, 1, 2] [v, v2, v3] = some (.sl [v.cv, v2.cv, v3.cv] .full, h) := by
 have := bs_all (h := h) (base := 0) (g := 0) (k := 0) (ts := fun _ => v) (z := z) (n := 3) (ps := [(0, .const v), (1, .const v2), (2, .const v3)]) hz rfl (by simp [obsL, ho, ho2, ho3, AOpd.ev]) (by simp [cvL, hd, hl, hd2, hl2, hd3, hl3, AOpd.ev])
 rw [P_bs] at this
 simpa [cvL, AOpd.ev] using this
end
section
variable {dst : Option Nat} {os : List AOper} {clk : Nat} {ks : List Kf} {Q : Post}
theorem O_bs {n : Nat} {ps : List (Nat × AOpd)} : O Gam base .plain g (⟨dst, .buildSlice k false z n ps, none⟩ :: os) ⟨ts, h, clk⟩ ks Q = PP Gam base (bsV h z n (ps.map (·.1)) (ps.map fun p => p.2.ev ts)) dst g os ts clk ks Q := by rw [O_pp rfl, P_bs]
end
theorem obs_agg {cs : List AV} : (AV.agg cs).obs = obsL cs := (rfl)
theorem obs_sl {cs : List AV} {t : Tip} : (AV.sl cs t).obs = [] := (rfl)
theorem obs_int {k : IntKind} {n : Int} : (AV.int k n).obs = [] := (rfl)
theorem obs_str {n : List Nat} : (AV.str n).obs = [] := (rfl)
theorem obs_bool {n : Bool} : (AV.bool n).obs = [] := (rfl)
theorem obsL_nil : obsL [] = [] := (rfl)
theorem obsL_cons {v : AV} {vs : List AV} : obsL (v :: vs) = v.obs ++ obsL vs := (rfl)
theorem cv_agg {cs : List AV} : (AV.agg cs).cv = .agg (cvL cs) := (rfl)
theorem cv_sl {cs : List AV} {t : Tip} : (AV.sl cs t).cv = .sl cs .no := (rfl)
theorem cv_int {k : IntKind} {n : Int} : (AV.int k n).cv = .int k n := (rfl)
theorem cv_str {n : List Nat} : (AV.str n).cv = .str n := (rfl)
theorem cv_bool {n : Bool} : (AV.bool n).cv = .bool n := (rfl)
attribute [go_sem] O_bs bsV1 bsV2 bsV3 fillParts obs_agg obs_sl obs_int obs_str obs_bool obsL_nil obsL_cons cv_agg cv_sl cv_int cv_str cv_bool
section
variable {dst : Option Nat} {os : List AOper} {clk : Nat} {ks : List Kf} {Q : Post}
def ofBV (h : List AObj) : AV → Option (AV × List AObj)
 | .str _ => none
 | x => ((srcOf h x).bind bytesOf).map fun s => (.str s, h)
theorem ofBV_sl {xs : List AV} {t : Tip} : ofBV h (.sl xs t) = (bytesOf xs).map fun s => (.str s, h) := (rfl)
def toBV (h : List AObj) : AV → Option (AV × List AObj)
 | .str s => some (.sl (s.map fun (b : Nat) => .int .u8 (Int.ofNat b)) .no, h)
 | _ => none
theorem toBV_str {s : List Nat} : toBV h (.str s) = some (.sl (s.map fun (b : Nat) => .int .u8 (Int.ofNat b)) .no, h) := (rfl)
def mmV (h : List AObj) (mx : Bool) : AV → AV → Option (AV × List AObj)
 | .int k a, .int _ b => some (.int k (if mx then (if b > a then b else a) else (if b < a then b else a)), h)
 | _, _ => none
theorem mmV_int {mx : Bool} {k j : IntKind} {a b : Int} : mmV h mx (.int k a) (.int j b) = some (.int k (if mx then (if b > a then b else a) else (if b < a then b else a)), h) := (rfl)
def lkV (h : List AObj) (t : ETy) (z : AV) (ok : Bool) (es : Option (List (AV × AV))) (ix : AV) : Option (AV × List AObj) :=
 match es with
 | some es => if (ix.eqv t ix).isSome = true then (findKey t ix es).map fun r => (found ok z r, h) else none
 | none => none
def muV (h : List AObj) (t : ETy) (k v : AV) : AV → Option (AV × List AObj)
 | .mp s g => match mapAt h s g, pub h v with
   | some es, some (v', h') => if (k.eqv t k).isSome = true then (putKey t k v' es).map fun es' => (.undef, h'.set s (.map g es')) else none
   | _, _ => none
 | _ => none
def msV (h : List AObj) (s g : Nat) (z : AV) (bytes : Nat) : AV → AV → Option (AV × List AObj)
 | .int _ n, .int _ c =>
   if 0 ≤ n ∧ n ≤ c ∧ c * (bytes + 1) ≤ roomBound ∧ z.def? = true then some (.ob s g 0 n.toNat, h.set s (.blk g (List.replicate c.toNat z) true false 0)) else none
 | _, _ => none
def slV (h : List AObj) (esz : Option Nat) (x : AV) (lo hi mx : Option AV) : Option (AV × List AObj) := (sliceVal h esz x lo hi mx).map (·, h)
def cSV (h : List AObj) : AV → Option (AV × List AObj)
 | .str s => some (.str s, h)
 | _ => none
theorem cSV_str {s : List Nat} : cSV h (.str s) = some (.str s, h) := (rfl)
theorem O_ofBytes {x : AOpd} : O Gam base .plain g (⟨dst, .ofBytes x, none⟩ :: os) ⟨ts, h, clk⟩ ks Q = PP Gam base (ofBV h (x.ev ts)) dst g os ts clk ks Q := by
 rw [O_pp rfl]; congr 1
theorem O_toBytes {x : AOpd} : O Gam base .plain g (⟨dst, .toBytes x, none⟩ :: os) ⟨ts, h, clk⟩ ks Q = PP Gam base (toBV h (x.ev ts)) dst g os ts clk ks Q := by
 rw [O_pp rfl]; congr 1
theorem O_cStr {x : AOpd} : O Gam base .plain g (⟨dst, .cStr x, none⟩ :: os) ⟨ts, h, clk⟩ ks Q = PP Gam base (cSV h (x.ev ts)) dst g os ts clk ks Q := by
 rw [O_pp rfl]; congr 1
theorem O_minmax {x y : AOpd} {mx : Bool} : O Gam base .plain g (⟨dst, .minmax mx x y, none⟩ :: os) ⟨ts, h, clk⟩ ks Q = PP Gam base (mmV h mx (x.ev ts) (y.ev ts)) dst g os ts clk ks Q := by
 rw [O_pp rfl]; congr 1
theorem O_lookup {t : ETy} {z : AV} {x ix : AOpd} {ok : Bool} : O Gam base .plain g (⟨dst, .lookup t z x ix ok, none⟩ :: os) ⟨ts, h, clk⟩ ks Q = PP Gam base (lkV h t z ok (mapOf h (x.ev ts)) (ix.ev ts)) dst g os ts clk ks Q := by
 rw [O_pp rfl]; rfl
theorem O_mapUpdate {t : ETy} {m k v : AOpd} : O Gam base .plain g (⟨dst, .mapUpdate t m k v, none⟩ :: os) ⟨ts, h, clk⟩ ks Q = PP Gam base (muV h t (k.ev ts) (v.ev ts) (m.ev ts)) dst g os ts clk ks Q := by
 rw [O_pp rfl]; congr 1
theorem O_makeSlice {k : Nat} {z : AV} {b : Nat} {n c : AOpd} : O Gam base .plain g (⟨dst, .makeSlice k z b n c, none⟩ :: os) ⟨ts, h, clk⟩ ks Q = PP Gam base (msV h (base + k) g z b (n.ev ts) (c.ev ts)) dst g os ts clk ks Q := by
 rw [O_pp rfl]; congr 1
theorem O_slice {esz : Option Nat} {x : AOpd} {lo hi mx : Option AOpd} : O Gam base .plain g (⟨dst, .slice esz x lo hi mx, none⟩ :: os) ⟨ts, h, clk⟩ ks Q = PP Gam base (slV h esz (x.ev ts) (lo.map (·.ev ts)) (hi.map (·.ev ts)) (mx.map (·.ev ts))) dst g os ts clk ks Q := by
 rw [O_pp rfl]; rfl
end
attribute [go_sem] ofBV_sl toBV_str mmV_int cSV_str O_ofBytes O_toBytes O_cStr O_minmax O_lookup O_mapUpdate O_makeSlice O_slice
section
variable {dst : Option Nat} {os os0 : List AOper} {clk N : Nat} {ks : List Kf} {Q : Post} {ps : List (Nat × Nat)} {fs : List (List Nat × List Nat)}
theorem D_move {x : AOpd} : O Gam base (.draw N os0 ps fs) g (⟨dst, (.move x), none⟩ :: os) ⟨ts, h, clk⟩ ks Q = PO Gam base (some (x.ev ts, h)) (([], [])) (.draw N os0 ps fs) dst g os ts clk ks Q := by rw [O_prim rfl]; congr 1
theorem D_pick {c a b : AOpd} : O Gam base (.draw N os0 ps fs) g (⟨dst, (.pick c a b), none⟩ :: os) ⟨ts, h, clk⟩ ks Q = PO Gam base (pickV h (c.ev ts) (a.ev ts) (b.ev ts)) (([], [])) (.draw N os0 ps fs) dst g os ts clk ks Q := by rw [O_prim rfl]; congr 1; exact P_pick
theorem D_alloc {k : Nat} {z : AV} : O Gam base (.draw N os0 ps fs) g (⟨dst, (.alloc k z), none⟩ :: os) ⟨ts, h, clk⟩ ks Q = PO Gam base (newV h (base + k) g z) (([], [base + k])) (.draw N os0 ps fs) dst g os ts clk ks Q := by rw [O_prim rfl]; congr 1
theorem D_box {k : Nat} {x : AOpd} : O Gam base (.draw N os0 ps fs) g (⟨dst, (.box k x), none⟩ :: os) ⟨ts, h, clk⟩ ks Q = PO Gam base (newV h (base + k) g (x.ev ts)) (([], [base + k])) (.draw N os0 ps fs) dst g os ts clk ks Q := by rw [O_prim rfl]; congr 1
theorem D_build {z : List AV} {qs : List (Nat × Nat × AOpd)} : O Gam base (.draw N os0 ps fs) g (⟨dst, (.build z qs), none⟩ :: os) ⟨ts, h, clk⟩ ks Q = PO Gam base ((fillParts z (qs.map fun p => (p.1, p.2.1, p.2.2.ev ts))).map fun cs => (.agg cs, h)) (([], [])) (.draw N os0 ps fs) dst g os ts clk ks Q := by rw [O_prim rfl]; congr 1
theorem D_bs {k n : Nat} {z : AV} {qs : List (Nat × AOpd)} : O Gam base (.draw N os0 ps fs) g (⟨dst, (.buildSlice k false z n qs), none⟩ :: os) ⟨ts, h, clk⟩ ks Q = PO Gam base (bsV h z n (qs.map (·.1)) (qs.map fun p => p.2.ev ts)) (([], (obsL (qs.map fun p => p.2.ev ts)).map (·.1))) (.draw N os0 ps fs) dst g os ts clk ks Q := by rw [O_prim rfl]; congr 1
theorem D_load {sz : Option Nat} {a : AOpd} : O Gam base (.draw N os0 ps fs) g (⟨dst, (.load sz a), none⟩ :: os) ⟨ts, h, clk⟩ ks Q = PO Gam base (loadV h sz (a.ev ts)) (((a.ev ts).ids, [])) (.draw N os0 ps fs) dst g os ts clk ks Q := by rw [O_prim rfl]; congr 1
theorem D_store {sz : Nat} {a x : AOpd} : O Gam base (.draw N os0 ps fs) g (⟨dst, (.store sz a x), none⟩ :: os) ⟨ts, h, clk⟩ ks Q = PO Gam base (storeV h sz (x.ev ts) (a.ev ts)) (([], (a.ev ts).ids ++ (x.ev ts).obs.map (·.1))) (.draw N os0 ps fs) dst g os ts clk ks Q := by rw [O_prim rfl]; congr 1
theorem D_nilCheck {x : AOpd} : O Gam base (.draw N os0 ps fs) g (⟨dst, (.nilCheck x), none⟩ :: os) ⟨ts, h, clk⟩ ks Q = PO Gam base (nilcV h (x.ev ts)) (([], [])) (.draw N os0 ps fs) dst g os ts clk ks Q := by rw [O_prim rfl]; congr 1
theorem D_binOp {op : BinOp} {t : ETy} {x y : AOpd} : O Gam base (.draw N os0 ps fs) g (⟨dst, (.binOp op t x y), none⟩ :: os) ⟨ts, h, clk⟩ ks Q = PO Gam base (binV h op t (x.ev ts) (y.ev ts)) (([], [])) (.draw N os0 ps fs) dst g os ts clk ks Q := by rw [O_prim rfl]; congr 1
theorem D_fieldAddr {x : AOpd} {o : Nat} : O Gam base (.draw N os0 ps fs) g (⟨dst, (.fieldAddr x o), none⟩ :: os) ⟨ts, h, clk⟩ ks Q = PO Gam base (addrV h o (x.ev ts)) (([], [])) (.draw N os0 ps fs) dst g os ts clk ks Q := by rw [O_prim rfl]; congr 1
theorem D_field {x : AOpd} {o : Nat} {sz : Option Nat} : O Gam base (.draw N os0 ps fs) g (⟨dst, (.field x o sz), none⟩ :: os) ⟨ts, h, clk⟩ ks Q = PO Gam base (fieldV h o sz (x.ev ts)) (([], [])) (.draw N os0 ps fs) dst g os ts clk ks Q := by rw [O_prim rfl]; congr 1
theorem D_extract {x : AOpd} {i : Nat} : O Gam base (.draw N os0 ps fs) g (⟨dst, (.extract x i), none⟩ :: os) ⟨ts, h, clk⟩ ks Q = PO Gam base (tupV h i (x.ev ts)) (([], [])) (.draw N os0 ps fs) dst g os ts clk ks Q := by rw [O_prim rfl]; congr 1
theorem D_len {t : LenTy} {x : AOpd} : O Gam base (.draw N os0 ps fs) g (⟨dst, (.len t x), none⟩ :: os) ⟨ts, h, clk⟩ ks Q = PO Gam base (lenV h t (x.ev ts)) (((x.ev ts).ids, [])) (.draw N os0 ps fs) dst g os ts clk ks Q := by rw [O_prim rfl]; congr 1
theorem D_indexAddr {esz : Nat} {x ix : AOpd} : O Gam base (.draw N os0 ps fs) g (⟨dst, (.indexAddr none esz x ix), none⟩ :: os) ⟨ts, h, clk⟩ ks Q = PO Gam base (idxAV h esz (x.ev ts) (ix.ev ts)) (((x.ev ts).ids, [])) (.draw N os0 ps fs) dst g os ts clk ks Q := by rw [O_prim rfl]; congr 1; exact P_indexAddr
theorem D_append {k esz b : Nat} {mu : Bool} {x y : AOpd} : O Gam base (.draw N os0 ps fs) g (⟨dst, (.append k esz b mu x y), none⟩ :: os) ⟨ts, h, clk⟩ ks Q = PO Gam base (appendVal h (base + k) g esz b mu (x.ev ts) (y.ev ts)) (((y.ev ts).ids, (base + k) :: (x.ev ts).ids)) (.draw N os0 ps fs) dst g os ts clk ks Q := by rw [O_prim rfl]; congr 1
theorem D_slice {esz : Option Nat} {x : AOpd} {lo hi mx : Option AOpd} : O Gam base (.draw N os0 ps fs) g (⟨dst, (.slice esz x lo hi mx), none⟩ :: os) ⟨ts, h, clk⟩ ks Q = PO Gam base (slV h esz (x.ev ts) (lo.map (·.ev ts)) (hi.map (·.ev ts)) (mx.map (·.ev ts))) (((x.ev ts).ids, [])) (.draw N os0 ps fs) dst g os ts clk ks Q := by rw [O_prim rfl]; congr 1
theorem D_minmax {x y : AOpd} {mx : Bool} : O Gam base (.draw N os0 ps fs) g (⟨dst, (.minmax mx x y), none⟩ :: os) ⟨ts, h, clk⟩ ks Q = PO Gam base (mmV h mx (x.ev ts) (y.ev ts)) (([], [])) (.draw N os0 ps fs) dst g os ts clk ks Q := by rw [O_prim rfl]; congr 1
theorem D_makeFunc {f : Nat} {cap : List AOpd} : O Gam base (.draw N os0 ps fs) g (⟨dst, (.makeFunc f cap), none⟩ :: os) ⟨ts, h, clk⟩ ks Q = PO Gam base (some (.fn f (cap.map (·.ev ts)), h)) (([], [])) (.draw N os0 ps fs) dst g os ts clk ks Q := by rw [O_prim rfl]; congr 1
theorem D_makeMap {k : Nat} : O Gam base (.draw N os0 ps fs) g (⟨dst, (.makeMap k), none⟩ :: os) ⟨ts, h, clk⟩ ks Q = PO Gam base (some (.mp (base + k) g, h.set (base + k) (.map g []))) (([], [base + k])) (.draw N os0 ps fs) dst g os ts clk ks Q := by rw [O_prim rfl]; congr 1
theorem D_unOp {op : UnOp} {x : AOpd} : O Gam base (.draw N os0 ps fs) g (⟨dst, .unOp op x, none⟩ :: os) ⟨ts, h, clk⟩ ks Q = PO Gam base (unV h op (x.ev ts)) ([], []) (.draw N os0 ps fs) dst g os ts clk ks Q := by rw [O_prim rfl]; congr 1
theorem D_indexS {x ix : AOpd} : O Gam base (.draw N os0 ps fs) g (⟨dst, .index none x ix, none⟩ :: os) ⟨ts, h, clk⟩ ks Q = PO Gam base (idxSV h (x.ev ts) (ix.ev ts)) ([], []) (.draw N os0 ps fs) dst g os ts clk ks Q := by rw [O_prim rfl]; congr 1; exact P_indexS
theorem PO_s {v : AV} {f : List Nat × List Nat} {m : Md} {d : Nat} : PO Gam base (some (v, h)) f m (some d) g os ts clk ks Q = O Gam base (m.add f) (g + 1) os ⟨upd ts d v, h, clk⟩ ks Q := (rfl)
theorem PO_n {v : AV} {f : List Nat × List Nat} {m : Md} : PO Gam base (some (v, h)) f m none g os ts clk ks Q = O Gam base (m.add f) (g + 1) os ⟨ts, h, clk⟩ ks Q := (rfl)
end
theorem ids_ptr {a b c d : Nat} : (AV.ptr a b c d).ids = [a] := (rfl)
theorem ids_iptr {cs : List AV} {o : Nat} : (AV.iptr cs o).ids = idsL cs := (rfl)
theorem ids_agg {cs : List AV} : (AV.agg cs).ids = idsL cs := (rfl)
theorem idsL_nil : idsL [] = [] := (rfl)
theorem idsL_cons {v : AV} {vs : List AV} : idsL (v :: vs) = v.ids ++ idsL vs := (rfl)
theorem ids_int {k : IntKind} {n : Int} : (AV.int k n).ids = [] := (rfl)
theorem ids_str {n : List Nat} : (AV.str n).ids = [] := (rfl)
theorem ids_bool {n : Bool} : (AV.bool n).ids = [] := (rfl)
def resC (h : List AObj) (sz : Option Nat) : AV → Option AV
 | .ptr s g i o => match blkAt h s g with
   | some (es, _, _, _) => (es[i]?).bind fun e => readCells e.cells o sz
   | none => none
 | _ => none
def rconsO : Option AV → Option (List AV) → Option (List AV)
 | some v, some vs => some (v :: vs)
 | _, _ => none
theorem rconsO_some {v : AV} {vs : List AV} : rconsO (some v) (some vs) = some (v :: vs) := (rfl)
theorem resC_ptr {s i o : Nat} {sz : Option Nat} : resC h sz (.ptr s g i o) = match blkAt h s g with
   | some (es, _, _, _) => (es[i]?).bind fun e => readCells e.cells o sz
   | none => none := (rfl)
theorem res_cell {t : Nat} {sz : Option Nat} {rs : List ARes} : resultsA h ts (.cell t sz :: rs) = rconsO (resC h sz (ts t)) (resultsA h ts rs) := by
 simp only [resultsA, resC]
 cases ts t <;> try rfl
 rename_i s g i o
 simp only
 cases blkAt h s g with
 | none => rfl
 | some x =>
   obtain ⟨es, a, b, c⟩ := x
   simp only
   cases (es[i]?).bind fun e => readCells e.cells o sz with
   | none => rfl
   | some v => cases resultsA h ts rs <;> rfl
attribute [go_sem] D_unOp D_indexS D_move D_pick D_alloc D_box D_build D_bs D_load D_store D_nilCheck D_binOp D_fieldAddr D_field D_extract D_len D_indexAddr D_append D_slice D_minmax D_makeFunc D_makeMap PO_s PO_n O_nil_draw ids_ptr ids_iptr ids_agg idsL_nil idsL_cons ids_int ids_str ids_bool resC_ptr rconsO_some res_cell Int.cast_ofNat_Int
def TipK (B k : Nat) (o : AObj) (t : Tip) (e : Nat) : Prop := t = .nil ∨ t = .full ∨ ∃ g, t = .at (B + k) g ∧ o = .tip g e
theorem append_loc {D L : List AObj} {B k esz b gen : Nat} {xs ys : List AV} {t u : Tip} {o : AObj} (hB : D.length = B) (ho : L[k]? = some o) (ht : TipK B k o t esz) (hx : allCells esz xs = true) (hy : allCells esz ys = true) (hl : (xs.length + ys.length) * (b + 1) ≤ 2 ^ 46) :
   appendVal (D ++ L) (B + k) gen esz b false (.sl xs t) (.sl ys u) = some (.sl (xs ++ ys) (.at (B + k) gen), D ++ L.set k (.tip gen esz)) := by
 have hgt : ¬ (xs.length + ys.length) * (b + 1) > roomBound := by unfold roomBound; omega
 unfold appendVal
 simp only [srcOf, hy, Bool.not_true, Bool.false_eq_true, if_false, hx, Bool.or_false, decide_eq_true_eq, hgt]
 rcases ht with rfl | rfl | ⟨g, rfl, rfl⟩
 · simp only [loc_set hB]
 · simp only [loc_set hB]
 · simp only [loc_get hB, ho, and_self, if_true, loc_set hB, List.set_set]
theorem allCells_map {α : Type} {f : α → AV} {n : Nat} {l : List α} (hf : ∀ x, (f x).def? = true ∧ (f x).cells.length = n ∧ (f x).cells.all AV.one = true) : allCells n (l.map f) = true := by
 induction l with
 | nil => rfl
 | cons a l ih => simp [allCells, hf a, ih]
end
structure Node where
 op : Nat
 sort : Nat
 name : List Nat
 num : List Nat
 kids : Nat
 deriving DecidableEq, Inhabited
structure Var where
 name : List Nat
 sort : Nat
 deriving DecidableEq, Inhabited
abbrev Term := List Node
structure App where
 pred : List Nat
 args : List Term
structure Clause where
 vars : List Var
 body : List App
 guard : Term
 head : App
structure Func where
 name : List Nat
 args : List Nat
 result : Nat
 deriving DecidableEq
structure Sys where
 preds : List Func
 clauses : List Clause
def nat (n : Nat) : AV := .int .i64 (n : Int)
def eNode (n : Node) : AV := .agg [nat n.op, nat n.sort, .str n.name, .str n.num, nat n.kids]
def eVar (v : Var) : AV := .agg [.str v.name, nat v.sort]
def eTerm (t : Term) : AV := .sl (t.map eNode) .no
def eApp (a : App) : AV := .agg [.str a.pred, .sl (a.args.map eTerm) .no]
def eClause (c : Clause) : AV := .agg [.sl (c.vars.map eVar) .no, .sl (c.body.map eApp) .no, eTerm c.guard, .str c.head.pred, .sl (c.head.args.map eTerm) .no]
def eFunc (f : Func) : AV := .agg [.str f.name, .sl (f.args.map nat) .no, nat f.result]
def eSys (s : Sys) : AV := .agg [.sl (s.preds.map eFunc) .no, .sl (s.clauses.map eClause) .no]
theorem obsL_map {α : Type} {f : α → AV} {l : List α} (hf : ∀ x, (f x).obs = []) : obsL (l.map f) = [] := by
 induction l with
 | nil => rfl
 | cons a l ih => simp [obsL, hf a, ih]
theorem idsL_map {α : Type} {f : α → AV} {l : List α} (hf : ∀ x, (f x).ids = []) : idsL (l.map f) = [] := by
 induction l with
 | nil => rfl
 | cons a l ih => simp [idsL, hf a, ih]
theorem ids_nat {n : Nat} : (nat n).ids = [] := (rfl)
theorem ids_sl {α : Type} {f : α → AV} {l : List α} (hf : ∀ x, (f x).ids = []) : (AV.sl (l.map f) .no).ids = [] := by simp [AV.ids, idsL_map hf]
theorem ids_node (n : Node) : (eNode n).ids = [] := (rfl)
theorem ids_var (v : Var) : (eVar v).ids = [] := (rfl)
theorem ids_term (t : Term) : (eTerm t).ids = [] := ids_sl ids_node
theorem ids_app (a : App) : (eApp a).ids = [] := by simp [eApp, AV.ids, idsL, idsL_map ids_term]
theorem ids_clause (c : Clause) : (eClause c).ids = [] := by simp [eClause, AV.ids, idsL, idsL_map ids_var, idsL_map ids_app, idsL_map ids_term, ids_term]
theorem ids_func (f : Func) : (eFunc f).ids = [] := by simp [eFunc, AV.ids, idsL, idsL_map (f := nat) (fun _ => ids_nat), ids_nat]
theorem ids_sys (s : Sys) : (eSys s).ids = [] := by simp [eSys, AV.ids, idsL, idsL_map ids_func, idsL_map ids_clause]
theorem obs_nat {n : Nat} : (nat n).obs = [] := (rfl)
theorem obs_node (n : Node) : (eNode n).obs = [] := (rfl)
theorem obs_var (v : Var) : (eVar v).obs = [] := (rfl)
theorem obs_term (t : Term) : (eTerm t).obs = [] := (rfl)
theorem obs_app (a : App) : (eApp a).obs = [] := (rfl)
theorem obs_clause (c : Clause) : (eClause c).obs = [] := (rfl)
theorem obs_func (f : Func) : (eFunc f).obs = [] := (rfl)
theorem obs_sys (s : Sys) : (eSys s).obs = [] := (rfl)
theorem cv_nat {n : Nat} : (nat n).cv = nat n := (rfl)
theorem cv_node (n : Node) : (eNode n).cv = eNode n := (rfl)
theorem cv_var (v : Var) : (eVar v).cv = eVar v := (rfl)
theorem cv_term (t : Term) : (eTerm t).cv = eTerm t := (rfl)
theorem cv_app (a : App) : (eApp a).cv = eApp a := (rfl)
theorem cv_clause (c : Clause) : (eClause c).cv = eClause c := (rfl)
theorem cv_func (f : Func) : (eFunc f).cv = eFunc f := (rfl)
theorem cv_sys (s : Sys) : (eSys s).cv = eSys s := (rfl)
theorem cells_nodes {l : Term} : allCells 5 (l.map eNode) = true := allCells_map fun _ => ⟨rfl, rfl, rfl⟩
theorem cells_vars {l : List Var} : allCells 2 (l.map eVar) = true := allCells_map fun _ => ⟨rfl, rfl, rfl⟩
theorem cells_terms {l : List Term} : allCells 1 (l.map eTerm) = true := allCells_map fun _ => ⟨rfl, rfl, rfl⟩
theorem cells_apps {l : List App} : allCells 2 (l.map eApp) = true := allCells_map fun _ => ⟨rfl, rfl, rfl⟩
theorem cells_clauses {l : List Clause} : allCells 5 (l.map eClause) = true := allCells_map fun _ => ⟨rfl, rfl, rfl⟩
theorem cells_funcs {l : List Func} : allCells 3 (l.map eFunc) = true := allCells_map fun _ => ⟨rfl, rfl, rfl⟩
theorem cells_nats {l : List Nat} : allCells 1 (l.map nat) = true := allCells_map fun _ => ⟨rfl, rfl, rfl⟩
theorem def_term {t : Term} : (eTerm t).def? = true := (rfl)
theorem cell_term {t : Term} : (eTerm t).cells = [eTerm t] := (rfl)
attribute [go_sem] obs_nat obs_node obs_var obs_term obs_app obs_clause obs_func obs_sys cv_nat cv_node cv_var cv_term cv_app cv_clause cv_func cv_sys cells_nodes cells_vars cells_terms cells_apps cells_clauses cells_funcs cells_nats def_term cell_term
theorem RV_one {T : List Nat} {v : AV} {R : AV → List AObj → Prop} {h : List AObj} (ho : v.obs = []) (hi : v.cv.ids = []) : RV T (some [v]) R h = R v.cv h := RV_some (vs := [v]) ho hi
theorem RV_eTerm {T : List Nat} {l : Term} {R : AV → List AObj → Prop} {h : List AObj} : RV T (some [eTerm l]) R h = R (eTerm l) h := RV_one rfl (ids_term l)
theorem RV_term {T : List Nat} {l : Term} {t : Tip} {R : AV → List AObj → Prop} {h : List AObj} : RV T (some [.sl (l.map eNode) t]) R h = R (eTerm l) h := RV_one rfl (ids_term l)
theorem idx_map {α : Type} {f : α → AV} {l : List α} {i esz : Nat} {h : List AObj} {t : Tip} {k : IntKind} {cs : List AV} (hi : i < l.length) (hc : (f l[i]).cells = cs) (hl : cs.length = esz) : idxAV h esz (.sl (l.map f) t) (.int k (i : Int)) = some (.iptr cs 0, h) := by
 rw [idxAV_sl (e := f l[i]) (by simp [hi]) (by rw [hc]; exact hl), hc]
theorem nil_map {α β : Type} {f : α → β} : ([] : List β) = ([] : List α).map f := rfl
theorem pure141 {b : Bool} : Pure Gam 141 [.bool b] (eTerm [⟨if b then 1 else 2, 0, [], [], 0⟩]) := by
 refine Pure.of rfl fn141 rfl rfl rfl rfl rfl fun D B clk T hB hT => ?_
 simp only [go_sem, Nat.reduceBEq, Nat.reduceAdd, Nat.reduceLeDiff, Nat.reduceSub, reduceCtorEq, ↓reduceIte, af141]
 refine BK_of (fun hb => ?_) (fun hb => ?_)
 all_goals
   simp only [go_sem, Nat.reduceBEq, Nat.reduceAdd, Nat.reduceLeDiff, Nat.reduceSub, reduceCtorEq, ↓reduceIte, ]
   rw [RV_some rfl rfl]
   simp only [hb, if_true, if_false, Bool.false_eq_true] at hT
   exact hT _
theorem pure144 {s : Nat} {a : List Nat} : Pure Gam 144 [nat s, .str a] (eTerm [⟨3, s, [], a, 0⟩]) := by
 refine Pure.of rfl fn144 rfl rfl rfl rfl rfl fun D B clk T hB hT => ?_
 simp only [go_sem, Nat.reduceBEq, Nat.reduceAdd, Nat.reduceLeDiff, Nat.reduceSub, reduceCtorEq, ↓reduceIte, af144, nat]
 rw [RV_some rfl rfl]
 exact hT _
theorem idx_term {l : List Term} {i : Nat} {h : List AObj} {t : Tip} {k : IntKind} (hi : i < l.length) : idxAV h 1 (.sl (l.map eTerm) t) (.int k (i : Int)) = some (.iptr [eTerm l[i]] 0, h) := idx_map hi rfl rfl
theorem pure187 {n : Node} {l : List Term} {u : Tip} (hl : l.length ≤ 2 ^ 20) (hf : l.flatten.length ≤ 2 ^ 30) : Pure Gam 187 [eNode n, .sl (l.map eTerm) u] (eTerm ({ n with kids := l.length } :: l.flatten)) := by
 refine Pure.of rfl fn187 rfl rfl rfl (az := [eNode n, .sl (l.map eTerm) .no]) rfl (by simp [idsL, ids_node, AV.ids, idsL_map ids_term]) fun D B clk T hB hT => ?_
 simp only [go_sem, Nat.reduceBEq, Nat.reduceAdd, Nat.reduceLeDiff, Nat.reduceSub, reduceCtorEq, ↓reduceIte, af187, eNode, hB, nat, List.length_map]
 refine K_loop (fun m s => ∃ (i : Nat) (acc : Term) (t : Tip) (a b o : AObj), i ≤ l.length ∧ m = l.length - i ∧ acc = { n with kids := l.length } :: (l.take i).flatten ∧ s.ts 1 = .sl (l.map eTerm) .no ∧ s.ts 5 = .sl (acc.map eNode) t ∧ s.ts 6 = .int .i64 i ∧ s.h = D ++ [a, b, o] ∧ TipK B 2 o t 5) l.length ?_ ?_
 · exact ⟨0, _, .full, _, _, _, by simp, rfl, rfl, rfl, rfl, rfl, rfl, .inr (.inl rfl)⟩
 rintro m ⟨ts, h, clk⟩ P ⟨i, acc, t, a, b, o, hi, rfl, hacc, h1, h5, h6, rfl, ht⟩ hn he hr
 dsimp only at h1 h5 h6
 simp only [go_sem, Nat.reduceBEq, Nat.reduceAdd, Nat.reduceLeDiff, Nat.reduceSub, reduceCtorEq, ↓reduceIte, h1, h5, h6, List.length_map, c187_0]
 refine BK_of (fun hb => ?_) (fun hb => ?_)
 · have hlt : i < l.length := by simp at hb; omega
   have hlen : (l.take i).flatten.length + (l[i]).length ≤ l.flatten.length := by
     have := congrArg (fun x => (List.flatten x).length) (List.take_append_drop i l)
     simp only [List.flatten_append, List.length_append] at this
     rw [List.drop_eq_getElem_cons hlt] at this
     simp only [List.flatten_cons, List.length_append] at this
     omega
   have ha : acc.length = (l.take i).flatten.length + 1 := by rw [hacc]; rfl
   simp only [go_sem, Nat.reduceBEq, Nat.reduceAdd, Nat.reduceLeDiff, Nat.reduceSub, reduceCtorEq, ↓reduceIte, h1, h5, h6, idx_term hlt]
   rw [eTerm, append_loc hB rfl ht cells_nodes cells_nodes (by simp only [List.length_map]; omega)]
   simp only [go_sem, Nat.reduceBEq, Nat.reduceAdd, Nat.reduceLeDiff, Nat.reduceSub, reduceCtorEq, ↓reduceIte, h1, h5, h6, ← List.map_append, wrap_i64 (n := (i : Int) + 1) (by omega) (by omega)]
   refine hn (l.length - (i + 1)) _ (by omega) ⟨i + 1, acc ++ l[i], _, _, _, _, hlt, rfl, ?_, h1, ?_, rfl, rfl, .inr (.inr ⟨_, rfl, rfl⟩)⟩
   · rw [hacc, List.take_succ_eq_append_getElem hlt]
     simp only [List.flatten_append, List.flatten_cons, List.flatten_nil, List.append_nil, List.cons_append]
   · simp only [upd_at, Nat.reduceBEq, cond_true, cond_false]
 · have hge : i = l.length := by simp at hb; omega
   subst hge
   simp only [go_sem, Nat.reduceBEq, Nat.reduceAdd, Nat.reduceLeDiff, Nat.reduceSub, reduceCtorEq, ↓reduceIte, h5]
   refine he _ _ ?_
   simp only [go_sem, Nat.reduceBEq, Nat.reduceAdd, Nat.reduceLeDiff, Nat.reduceSub, reduceCtorEq, ↓reduceIte, h5]
   rw [RV_term]
   rw [List.take_length] at hacc
   rw [hacc]
   exact hT _
end Go.Proofs.YtbeooboebfbchaaGreatDoor.Am
