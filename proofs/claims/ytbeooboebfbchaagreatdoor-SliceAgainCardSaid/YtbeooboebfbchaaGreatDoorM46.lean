/- Walking: needed predicates (2). Walking: the transformation is found. Walking: names in lists. Walking: lists of names are joined. -/
import Derived.Test.YtbeooboebfbchaaGreatDoorM45
set_option linter.unusedVariables false
set_option linter.unusedSimpArgs false
namespace Go.Proofs.YtbeooboebfbchaaGreatDoor.Am
open Go
set_option maxRecDepth 100000
theorem needLoop {cs : List Clause} {Dv : List Nat → Prop} {dl : List (List Nat)} {B clk g0 g sD gD : Nat} {D : List AObj} {o0 o2 o3 : AObj} {l : List (List Nat)} {ts : Tmps} {ks : List Kf} {Q : Post} (hB : D.length = B) (hcl : cs.length ≤ 2 ^ 20) (hbl : ∀ c ∈ cs, c.body.length ≤ 2 ^ 20) (hdl : ∀ a, a ∈ dl ↔ Dv a) (hS : Has [(sD, .map gD (nameSet dl))] D) (hN : ∀ a ∈ l, Need cs Dv a) (h1 : ts 1 = .mp sD gD) (h2 : ts 2 = .ptr (B + 0) g0 0 0) (h5 : ts 5 = .mp (B + 1) g) (h6 : ts 6 = .bool false) (h14 : ts 14 = .sl (cs.map eClause) .no) (h15 : ts 15 = .int .i64 (cs.length : Int)) (h16 : ts 16 = .int .i64 0)
   (hQ : ∀ (ts' : Tmps) (l' : List (List Nat)) (b : Bool) (o2 o3 : AObj) (clk' : Nat), (∀ a ∈ l', Need cs Dv a) → (b = true → openN cs l' < openN cs l) → (b = false → l' = l ∧ ∀ c ∈ cs, ClosedN dl c l) → ts' 1 = .mp sD gD → ts' 2 = .ptr (B + 0) g0 0 0 → ts' 5 = .mp (B + 1) g → ts' 6 = .bool b → K Gam B (.exit 2) ks ⟨ts', D ++ [o0, .map g (nameSet l'), o2, o3], clk'⟩ Q) :
   K Gam B (.loop c45_1) ks ⟨ts, D ++ [o0, .map g (nameSet l), o2, o3], clk⟩ Q := by
 refine K_loop (fun m q => ∃ (i : Nat) (l' : List (List Nat)) (b : Bool) (o2 o3 : AObj), i ≤ cs.length ∧ m = cs.length - i ∧ (∀ a ∈ l', Need cs Dv a) ∧ (∀ a ∈ l, a ∈ l') ∧ (b = true → openN cs l' < openN cs l) ∧ (b = false → l' = l ∧ ∀ c ∈ cs.take i, ClosedN dl c l) ∧ q.ts 1 = .mp sD gD ∧ q.ts 2 = .ptr (B + 0) g0 0 0 ∧ q.ts 5 = .mp (B + 1) g ∧ q.ts 6 = .bool b ∧ q.ts 14 = .sl (cs.map eClause) .no ∧ q.ts 15 = .int .i64 (cs.length : Int) ∧ q.ts 16 = .int .i64 (i : Int) ∧ q.h = D ++ [o0, .map g (nameSet l'), o2, o3]) cs.length ⟨0, l, false, o2, o3, by omega, rfl, hN, fun _ h => h, by simp, fun _ => ⟨rfl, by simp⟩, h1, h2, h5, h6, h14, h15, h16, rfl⟩ ?_
 clear h1 h2 h5 h6 h14 h15 h16
 rintro m ⟨ts, h, clk⟩ P ⟨i, l', b, o2, o3, hi, rfl, hN', hll, hb1, hb2, q1, q2, q5, q6, q14, q15, q16, rfl⟩ hnx he hr
 dsimp only at q1 q2 q5 q6 q14 q15 q16
 by_cases hlt : i < cs.length
 · have f1 : decide ((i : Int) < (cs.length : Int)) = true := by rw [decide_eq_true_iff]; omega
   have f2 : IntKind.i64.wrap ((i : Int) + 1) = ((i + 1 : Nat) : Int) := wrap_i64 (by omega) (by omega)
   have hmem := List.getElem_mem hlt
   have htake : cs.take (i + 1) = cs.take i ++ [cs[i]] := List.take_succ_eq_append_getElem hlt
   have hix := fun h => clause_idx (l := cs) (i := i) (h := h) (t := .no) (k := .i64) hlt
   have hbody := hbl _ hmem
   generalize cs[i] = c at hmem htake hix hbody
   have same : ClosedN dl c l' → ∀ (ts' : Tmps) (clk' : Nat) (o2 o3 : AObj), ts' 1 = .mp sD gD → ts' 2 = .ptr (B + 0) g0 0 0 → ts' 5 = .mp (B + 1) g → ts' 6 = .bool b → ts' 14 = .sl (cs.map eClause) .no → ts' 15 = .int .i64 (cs.length : Int) → ts' 16 = .int .i64 ((i + 1 : Nat) : Int) → P .norm ⟨ts', D ++ [o0, .map g (nameSet l'), o2, o3], clk'⟩ := by
     intro hc ts' clk' o2 o3 r1 r2 r5 r6 r14 r15 r16
     refine hnx (cs.length - (i + 1)) _ (by omega) ⟨i + 1, l', b, o2, o3, hlt, rfl, hN', hll, hb1, fun hbf => ?_, r1, r2, r5, r6, r14, r15, r16, rfl⟩
     obtain ⟨e1, e2⟩ := hb2 hbf
     refine ⟨e1, fun d hd => ?_⟩
     rw [htake, List.mem_append, List.mem_singleton] at hd
     rcases hd with hd | rfl
     · exact e2 d hd
     · rw [← e1]; exact hc
   have hr1 := reads87 (sM := sD) (gM := gD) (body := c.body) (l := dl) (u := .no) hbody
   have hr2 := reads87 (sM := B + 1) (gM := g) (body := c.body) (l := l') (u := .no) hbody
   have hh1 : ∀ L, Has [(sD, .map gD (nameSet dl))] (D ++ L) := fun L => hS.app
   have hh2 : ∀ o2 o3, Has [(B + 1, .map g (nameSet l'))] (D ++ [o0, .map g (nameSet l'), o2, o3]) := fun o2 o3 => has_loc hB rfl
   -- the clause's body is looked at
   have rest : (c.head.pred = [] ∨ c.head.pred ∈ l') → ∀ w1 w2 : Bool, withinB c.body dl = w1 → withinB c.body l' = w2 → ClosedN dl c l' ∨ (w1 = true ∧ w2 = false) := by
     intro hh w1 w2 e1 e2
     cases w1 with
     | false => exact .inl fun _ h => by rw [e1] at h; cases h
     | true =>
       cases w2 with
       | true => exact .inl fun _ _ => e2
       | false => exact .inr ⟨rfl, rfl⟩
   have add : (c.head.pred = [] ∨ c.head.pred ∈ l') → withinB c.body dl = true → withinB c.body l' = false → ∀ (ts' : Tmps) (clk' : Nat) (o2 o3 : AObj), ts' 1 = .mp sD gD → ts' 2 = .ptr (B + 0) g0 0 0 → ts' 5 = .mp (B + 1) g → ts' 6 = .bool true → ts' 14 = .sl (cs.map eClause) .no → ts' 15 = .int .i64 (cs.length : Int) → ts' 16 = .int .i64 ((i + 1 : Nat) : Int) → P .norm ⟨ts', D ++ [o0, .map g (nameSet (addAll l' c.body)), o2, o3], clk'⟩ := by
     intro hh e1 e2 ts' clk' o2 o3 r1 r2 r5 r6 r14 r15 r16
     have hin : withinB c.body (addAll l' c.body) = true := within_iff.2 fun a ha => mem_addAll.2 (.inr ⟨a, ha, rfl⟩)
     have hlt2 := openN_lt hmem e2 hin fun a ha => mem_addAll.2 (.inl ha)
     refine hnx (cs.length - (i + 1)) _ (by omega) ⟨i + 1, addAll l' c.body, true, o2, o3, hlt, rfl, fun a ha => ?_, fun a ha => mem_addAll.2 (.inl (hll a ha)), fun _ => ?_, by simp, r1, r2, r5, r6, r14, r15, r16, rfl⟩
     · rcases mem_addAll.1 ha with ha | ⟨b, hb, rfl⟩
       · exact hN' a ha
       · have hbd : ∀ a ∈ c.body, Dv a.pred := fun a ha => (hdl _).1 (within_iff.1 e1 a ha)
         rcases hh with hh | hh
         · exact .query hmem hh hbd hb
         · exact .of hmem (hN' _ hh) hbd hb
     · cases b with
       | true => have := hb1 rfl; omega
       | false => rw [(hb2 rfl).1] at hlt2 ⊢; exact hlt2
   cases hw1 : withinB c.body dl with
   | false =>
     rw [hw1] at hr1
     have hcl' : ClosedN dl c l' := fun _ h => by rw [hw1] at h; cases h
     by_cases hh : c.head.pred = []
     · have g1 : decide (c.head.pred = []) = true := by rw [decide_eq_true_iff]; exact hh
       simp only [go_sem, Nat.reduceBEq, Nat.reduceAdd, Nat.reduceLeDiff, Nat.reduceSub, reduceCtorEq, ↓reduceIte, c45_1, q1, q2, q5, q6, q14, q15, q16, hB, f1, hix, g1, Bool.not_true, CK_reads hr1 (hh1 _), Bool.not_false, f2]
       exact same hcl' _ _ _ _ q1 q2 q5 q6 q14 q15 rfl
     · have g1 : decide (c.head.pred = []) = false := by rw [decide_eq_false_iff_not]; exact hh
       by_cases hin : c.head.pred ∈ l'
       · simp only [go_sem, Nat.reduceBEq, Nat.reduceAdd, Nat.reduceLeDiff, Nat.reduceSub, reduceCtorEq, ↓reduceIte, c45_1, q1, q2, q5, q6, q14, q15, q16, hB, f1, hix, g1, Bool.not_true, mapOf_mp, lk_set, hin, found_someF, CK_reads hr1 (hh1 _), Bool.not_false, f2]
         exact same hcl' _ _ _ _ q1 q2 q5 q6 q14 q15 rfl
       · simp only [go_sem, Nat.reduceBEq, Nat.reduceAdd, Nat.reduceLeDiff, Nat.reduceSub, reduceCtorEq, ↓reduceIte, c45_1, q1, q2, q5, q6, q14, q15, q16, hB, f1, hix, g1, Bool.not_true, mapOf_mp, lk_set, hin, found_noneF, CK_reads hr1 (hh1 _), Bool.not_false, f2]
         exact same hcl' _ _ _ _ q1 q2 q5 q6 q14 q15 rfl
   | true =>
     rw [hw1] at hr1
     cases hw2 : withinB c.body l' with
     | true =>
       rw [hw2] at hr2
       have hcl' : ClosedN dl c l' := fun _ _ => hw2
       by_cases hh : c.head.pred = []
       · have g1 : decide (c.head.pred = []) = true := by rw [decide_eq_true_iff]; exact hh
         simp only [go_sem, Nat.reduceBEq, Nat.reduceAdd, Nat.reduceLeDiff, Nat.reduceSub, reduceCtorEq, ↓reduceIte, c45_1, q1, q2, q5, q6, q14, q15, q16, hB, f1, hix, g1, Bool.not_true, CK_reads hr1 (hh1 _), CK_reads hr2 (hh2 _ _), Bool.not_false, f2]
         exact same hcl' _ _ _ _ q1 q2 q5 q6 q14 q15 rfl
       · have g1 : decide (c.head.pred = []) = false := by rw [decide_eq_false_iff_not]; exact hh
         by_cases hin : c.head.pred ∈ l'
         · simp only [go_sem, Nat.reduceBEq, Nat.reduceAdd, Nat.reduceLeDiff, Nat.reduceSub, reduceCtorEq, ↓reduceIte, c45_1, q1, q2, q5, q6, q14, q15, q16, hB, f1, hix, g1, Bool.not_true, mapOf_mp, lk_set, hin, found_someF, CK_reads hr1 (hh1 _), CK_reads hr2 (hh2 _ _), Bool.not_false, f2]
           exact same hcl' _ _ _ _ q1 q2 q5 q6 q14 q15 rfl
         · simp only [go_sem, Nat.reduceBEq, Nat.reduceAdd, Nat.reduceLeDiff, Nat.reduceSub, reduceCtorEq, ↓reduceIte, c45_1, q1, q2, q5, q6, q14, q15, q16, hB, f1, hix, g1, Bool.not_true, mapOf_mp, lk_set, hin, found_noneF, CK_reads hr1 (hh1 _), CK_reads hr2 (hh2 _ _), Bool.not_false, f2]
           exact same hcl' _ _ _ _ q1 q2 q5 q6 q14 q15 rfl
     | false =>
       rw [hw2] at hr2
       by_cases hh : c.head.pred = []
       · have g1 : decide (c.head.pred = []) = true := by rw [decide_eq_true_iff]; exact hh
         simp only [go_sem, Nat.reduceBEq, Nat.reduceAdd, Nat.reduceLeDiff, Nat.reduceSub, reduceCtorEq, ↓reduceIte, c45_1, q1, q2, q5, q6, q14, q15, q16, hB, f1, hix, g1, Bool.not_true, CK_reads hr1 (hh1 _), CK_reads hr2 (hh2 _ _), Bool.not_false, List.length_map]
         refine needBody (sD := sD) (gD := gD) (v14 := .sl (cs.map eClause) .no) (v15 := .int .i64 (cs.length : Int)) (v16 := .int .i64 (i : Int)) (g0 := g0) hB hbody (by simp [upd_at, q1]) (by simp [upd_at, q2]) (by simp [upd_at, q5]) (by simp [upd_at, q14]) (by simp [upd_at, q15]) (by simp [upd_at, q16]) (by simp [upd_at]) (by simp [upd_at]) (by simp [upd_at]) fun ts' o3 clk' r1 r2 r5 r14 r15 r16 => ?_
         simp only [go_sem, Nat.reduceBEq, Nat.reduceAdd, Nat.reduceLeDiff, Nat.reduceSub, reduceCtorEq, ↓reduceIte, r16, f2]
         exact add (.inl hh) hw1 hw2 _ _ _ _ r1 r2 r5 rfl r14 r15 rfl
       · have g1 : decide (c.head.pred = []) = false := by rw [decide_eq_false_iff_not]; exact hh
         by_cases hin : c.head.pred ∈ l'
         · simp only [go_sem, Nat.reduceBEq, Nat.reduceAdd, Nat.reduceLeDiff, Nat.reduceSub, reduceCtorEq, ↓reduceIte, c45_1, q1, q2, q5, q6, q14, q15, q16, hB, f1, hix, g1, Bool.not_true, mapOf_mp, lk_set, hin, found_someF, CK_reads hr1 (hh1 _), CK_reads hr2 (hh2 _ _), Bool.not_false, List.length_map]
           refine needBody (sD := sD) (gD := gD) (v14 := .sl (cs.map eClause) .no) (v15 := .int .i64 (cs.length : Int)) (v16 := .int .i64 (i : Int)) (g0 := g0) hB hbody (by simp [upd_at, q1]) (by simp [upd_at, q2]) (by simp [upd_at, q5]) (by simp [upd_at, q14]) (by simp [upd_at, q15]) (by simp [upd_at, q16]) (by simp [upd_at]) (by simp [upd_at]) (by simp [upd_at]) fun ts' o3 clk' r1 r2 r5 r14 r15 r16 => ?_
           simp only [go_sem, Nat.reduceBEq, Nat.reduceAdd, Nat.reduceLeDiff, Nat.reduceSub, reduceCtorEq, ↓reduceIte, r16, f2]
           exact add (.inr hin) hw1 hw2 _ _ _ _ r1 r2 r5 rfl r14 r15 rfl
         · simp only [go_sem, Nat.reduceBEq, Nat.reduceAdd, Nat.reduceLeDiff, Nat.reduceSub, reduceCtorEq, ↓reduceIte, c45_1, q1, q2, q5, q6, q14, q15, q16, hB, f1, hix, g1, Bool.not_true, mapOf_mp, lk_set, hin, found_noneF, CK_reads hr1 (hh1 _), CK_reads hr2 (hh2 _ _), Bool.not_false, f2]
           refine same (fun h => ?_) _ _ _ _ q1 q2 q5 q6 q14 q15 rfl
           rcases h with h | h
           · exact absurd h hh
           · exact absurd h hin
 · have f1 : decide ((i : Int) < (cs.length : Int)) = false := by rw [decide_eq_false_iff_not]; omega
   have hti : cs.take i = cs := List.take_of_length_le (by omega)
   rw [hti] at hb2
   simp only [go_sem, Nat.reduceBEq, Nat.reduceAdd, Nat.reduceLeDiff, Nat.reduceSub, reduceCtorEq, ↓reduceIte, c45_1, q1, q2, q5, q6, q14, q15, q16, f1]
   refine he _ _ ?_
   exact hQ _ l' b o2 o3 _ hN' hb1 hb2 (by simp [upd_at, q1]) (by simp [upd_at, q2]) (by simp [upd_at, q5]) (by simp [upd_at, q6])
theorem wc45 {s : Sys} {Dv : List Nat → Prop} {dl : List (List Nat)} {sD gD : Nat} {h : List AObj} {clk : Nat} {Q : AV → List AObj → Nat → Prop} (hcl : s.clauses.length ≤ 2 ^ 20) (hbl : ∀ c ∈ s.clauses, c.body.length ≤ 2 ^ 20) (hdl : ∀ a, a ∈ dl ↔ Dv a) (hS : Has [(sD, .map gD (nameSet dl))] h) (hQ : ∀ g l o0 o2 o3 c, (∀ a, a ∈ l ↔ Need s.clauses Dv a) → Q (.mp (h.length + 1) g) (h ++ [o0, .map g (nameSet l), o2, o3]) c) : WC Gam 45 [eSys s, .mp sD gD] h clk Q := by
 refine WC_growS rfl fn45 rfl rfl rfl (az := [eSys s, .mp sD gD]) rfl (by simpa [idsL, ids_sys, AV.ids] using (setv_ids (s := sD) (g := gD) (l := dl))) hS fun D B R hB hBh hSD hlt hR => ?_
 simp only [go_sem, Nat.reduceBEq, af45, hB, eSys]
 refine K_loop (fun m q => ∃ (l : List (List Nat)) (b : Bool) (g0 g : Nat) (o2 o3 : AObj), m = (if b then openN s.clauses l + 1 else 0) ∧ (∀ a ∈ l, Need s.clauses Dv a) ∧ (b = false → ∀ c ∈ s.clauses, ClosedN dl c l) ∧ q.ts 1 = .mp sD gD ∧ q.ts 2 = .ptr (B + 0) g0 0 0 ∧ q.ts 5 = .mp (B + 1) g ∧ q.ts 6 = .bool b ∧ q.h = D ++ [.blk g0 [.agg [.sl (s.preds.map eFunc) .no, .sl (s.clauses.map eClause) .no]] false false 0, .map g (nameSet l), o2, o3]) (openN s.clauses [] + 1) ⟨[], true, _, _, _, _, rfl, by simp, by simp, rfl, rfl, rfl, rfl, rfl⟩ ?_
 rintro m ⟨ts, h, clk⟩ P ⟨l, b, g0, g, o2, o3, rfl, hN, hb, q1, q2, q5, q6, rfl⟩ hnx he hr
 dsimp only at q1 q2 q5 q6
 cases b with
 | true =>
   simp only [go_sem, Nat.reduceBEq, c45_2, q1, q2, q5, q6, hB, List.length_map]
   refine needLoop (g0 := g0) hB hcl hbl hdl hSD hN (by simp [upd_at, q1]) (by simp [upd_at, q2]) (by simp [upd_at, q5]) (by simp [upd_at]) (by simp [upd_at]) (by simp [upd_at]) (by simp [upd_at]) fun ts' l' b o2 o3 clk' hN' hb1 hb2 r1 r2 r5 r6 => ?_
   simp only [go_sem, Nat.reduceBEq, ]
   refine hnx (if b then openN s.clauses l' + 1 else 0) _ ?_ ⟨l', b, g0, g, o2, o3, rfl, hN', fun hbf => ?_, r1, r2, r5, r6, rfl⟩
   · cases b with
     | true => have := hb1 rfl; simpa using this
     | false => simp
   · obtain ⟨e1, e2⟩ := hb2 hbf
     rw [e1]; exact e2
 | false =>
   simp only [go_sem, Nat.reduceBEq, c45_2, q1, q2, q5, q6, hB]
   refine he _ _ ?_
   simp only [go_sem, Nat.reduceBEq, q5]
   rw [RVG_some rfl]
   refine hR _ _ ⟨B + 1, by simp [oneOf, AV.cv, AV.ids], by omega⟩ fun c => ?_
   have := hQ g l (.blk g0 [.agg [.sl (s.preds.map eFunc) .no, .sl (s.clauses.map eClause) .no]] false false 0) o2 o3 c fun a => ⟨hN a, need_all hdl (hb rfl)⟩
   rw [← hBh] at this
   exact this
structure Tf where
 kind : Int
 pred : List Nat
 into : List Nat
 clause : Int
 atom : Int
 un : List (List Nat)
 und : List (List Nat)
 drops : List AV
def strs (l : List (List Nat)) : List AV := l.map AV.str
def eTf (x : Tf) : AV := .agg [.int .i64 x.kind, .str x.pred, .str x.into, .int .i64 x.clause, .int .i64 x.atom, .sl (strs x.un) .no, .sl (strs x.und) .no, .sl x.drops .no]
theorem ids_strs {l : List (List Nat)} : idsL (strs l) = [] := idsL_map fun _ => rfl
theorem cells_strs {l : List (List Nat)} : allCells 1 (strs l) = true := allCells_map fun _ => ⟨rfl, rfl, rfl⟩
def undOf (ps : List Func) (dl : List (List Nat)) : List (List Nat) := (ps.map (·.name)).filter fun a => decide (a ∉ dl)
def unOf (ps : List Func) (dl nl : List (List Nat)) : List (List Nat) := (ps.map (·.name)).filter fun a => decide (a ∈ dl ∧ a ∉ nl)
theorem undOf_len {ps : List Func} {dl : List (List Nat)} : (undOf ps dl).length ≤ ps.length := by
 have := List.length_filter_le (fun a => decide (a ∉ dl)) (ps.map (·.name))
 simpa [undOf] using this
theorem unOf_len {ps : List Func} {dl nl : List (List Nat)} : (unOf ps dl nl).length ≤ ps.length := by
 have := List.length_filter_le (fun a => decide (a ∈ dl ∧ a ∉ nl)) (ps.map (·.name))
 simpa [unOf] using this
open Classical in
noncomputable def findT (s : Sys) : Tf := ⟨2, [], [], 0, 0, (s.preds.map (·.name)).filter fun a => decide (Der s.clauses a ∧ ¬ Need s.clauses (Der s.clauses) a), (s.preds.map (·.name)).filter fun a => decide (¬ Der s.clauses a), []⟩
open Classical in
theorem undOf_eq {s : Sys} {dl : List (List Nat)} (hd : ∀ a, a ∈ dl ↔ Der s.clauses a) : undOf s.preds dl = (findT s).und := by
 unfold undOf findT
 refine List.filter_congr fun a _ => ?_
 rw [Bool.eq_iff_iff, decide_eq_true_iff, decide_eq_true_iff, hd]
open Classical in
theorem unOf_eq {s : Sys} {dl nl : List (List Nat)} (hd : ∀ a, a ∈ dl ↔ Der s.clauses a) (hn : ∀ a, a ∈ nl ↔ Need s.clauses (Der s.clauses) a) : unOf s.preds dl nl = (findT s).un := by
 unfold unOf findT
 refine List.filter_congr fun a _ => ?_
 rw [Bool.eq_iff_iff, decide_eq_true_iff, decide_eq_true_iff, hd, hn]
theorem func_idx {l : List Func} {i : Nat} {h : List AObj} {t : Tip} {k : IntKind} (hi : i < l.length) : idxAV h 3 (.sl (l.map eFunc) t) (.int k (i : Int)) = some (.iptr [.str l[i].name, .sl (l[i].args.map nat) .no, .int .i64 (l[i].result : Int)] 0, h) := idx_func hi
theorem findLoop {ps : List Func} {dl nl : List (List Nat)} {B clk gx g1 gD gN : Nat} {D : List AObj} {a0 o1 p o4 o5 o6 o7 d0 d2 n0 n2 n3 : AObj} {ts : Tmps} {ks : List Kf} {Q : Post} (hB : D.length = B) (hpl : ps.length ≤ 1000) (h2 : ts 2 = .ptr (B + 1) g1 0 0) (h4 : ts 4 = .ptr (B + 2) gx 0 0) (h5 : ts 5 = .mp (B + 9) gD) (h6 : ts 6 = .mp (B + 12) gN) (h20 : ts 20 = .sl (ps.map eFunc) .no) (h21 : ts 21 = .int .i64 (ps.length : Int)) (h22 : ts 22 = .int .i64 0)
   (hQ : ∀ (ts' : Tmps) (t1 t2 : Tip) (p o4 o5 o6 o7 : AObj) (clk' : Nat), ts' 2 = .ptr (B + 1) g1 0 0 → ts' 4 = .ptr (B + 2) gx 0 0 → K Gam B (.exit 0) ks ⟨ts', D ++ [a0, o1, .blk gx [.agg [.int .i64 2, .str [], .str [], .int .i64 0, .int .i64 0, .sl (strs (unOf ps dl nl)) t1, .sl (strs (undOf ps dl)) t2, .sl [] .nil]] false false 0, p, o4, o5, o6, o7, d0, .map gD (nameSet dl), d2, n0, .map gN (nameSet nl), n2, n3], clk'⟩ Q) :
   K Gam B (.loop c21_0) ks ⟨ts, D ++ [a0, o1, .blk gx [.agg [.int .i64 2, .str [], .str [], .int .i64 0, .int .i64 0, .sl [] .nil, .sl [] .nil, .sl [] .nil]] false false 0, p, o4, o5, o6, o7, d0, .map gD (nameSet dl), d2, n0, .map gN (nameSet nl), n2, n3], clk⟩ Q := by
 refine K_loop (fun m q => ∃ (i : Nat) (t1 t2 : Tip) (p o4 o5 o6 o7 : AObj), i ≤ ps.length ∧ m = ps.length - i ∧ q.ts 2 = .ptr (B + 1) g1 0 0 ∧ q.ts 4 = .ptr (B + 2) gx 0 0 ∧ q.ts 5 = .mp (B + 9) gD ∧ q.ts 6 = .mp (B + 12) gN ∧ q.ts 20 = .sl (ps.map eFunc) .no ∧ q.ts 21 = .int .i64 (ps.length : Int) ∧ q.ts 22 = .int .i64 (i : Int) ∧
   q.h = D ++ [a0, o1, .blk gx [.agg [.int .i64 2, .str [], .str [], .int .i64 0, .int .i64 0, .sl (strs (unOf (ps.take i) dl nl)) t1, .sl (strs (undOf (ps.take i) dl)) t2, .sl [] .nil]] false false 0, p, o4, o5, o6, o7, d0, .map gD (nameSet dl), d2, n0, .map gN (nameSet nl), n2, n3] ∧ TipK B 7 o7 t1 1 ∧ TipK B 5 o5 t2 1) ps.length ⟨0, .nil, .nil, p, o4, o5, o6, o7, by omega, rfl, h2, h4, h5, h6, h20, h21, h22, rfl, .inl rfl, .inl rfl⟩ ?_
 clear h2 h4 h5 h6 h20 h21 h22
 rintro m ⟨ts, h, clk⟩ P ⟨i, t1, t2, p, o4, o5, o6, o7, hi, rfl, q2, q4, q5, q6, q20, q21, q22, rfl, ht1, ht2⟩ hnx he hr
 dsimp only at q2 q4 q5 q6 q20 q21 q22
 by_cases hlt : i < ps.length
 · have f1 : decide ((i : Int) < (ps.length : Int)) = true := by rw [decide_eq_true_iff]; omega
   have f2 : IntKind.i64.wrap ((i : Int) + 1) = ((i + 1 : Nat) : Int) := wrap_i64 (by omega) (by omega)
   have htake : ps.take (i + 1) = ps.take i ++ [ps[i]] := List.take_succ_eq_append_getElem hlt
   have hix := fun h => func_idx (l := ps) (i := i) (h := h) (t := .no) (k := .i64) hlt
   have hl1 := undOf_len (ps := ps.take i) (dl := dl)
   have hl2 := unOf_len (ps := ps.take i) (dl := dl) (nl := nl)
   have hu1 : undOf (ps.take (i + 1)) dl = undOf (ps.take i) dl ++ (if ps[i].name ∈ dl then [] else [ps[i].name]) := by
     unfold undOf
     rw [htake, List.map_append, List.filter_append]
     congr 1
     by_cases h : ps[i].name ∈ dl <;> simp [h]
   have hu2 : unOf (ps.take (i + 1)) dl nl = unOf (ps.take i) dl nl ++ (if ps[i].name ∈ dl ∧ ps[i].name ∉ nl then [ps[i].name] else []) := by
     unfold unOf
     rw [htake, List.map_append, List.filter_append]
     congr 1
     by_cases h : ps[i].name ∈ dl <;> by_cases h' : ps[i].name ∈ nl <;> simp [h, h']
   rw [List.length_take] at hl1 hl2
   generalize ps[i] = f at *
   by_cases hin : f.name ∈ dl
   · rw [if_pos hin, List.append_nil] at hu1
     by_cases hin2 : f.name ∈ nl
     · rw [if_neg (fun h => h.2 hin2), List.append_nil] at hu2
       simp only [go_sem, Nat.reduceBEq, Nat.reduceAdd, Nat.reduceLeDiff, Nat.reduceSub, reduceCtorEq, ↓reduceIte, c21_0, q2, q4, q5, q6, q20, q21, q22, hB, f1, hix, mapOf_mp, lk_set, hin, hin2, found_someF, Bool.not_true, f2]
       rw [← hu1, ← hu2]
       exact hnx (ps.length - (i + 1)) _ (by omega) ⟨i + 1, t1, t2, _, _, _, _, _, hlt, rfl, q2, q4, q5, q6, q20, q21, rfl, rfl, ht1, ht2⟩
     · rw [if_pos ⟨hin, hin2⟩] at hu2
       simp only [go_sem, Nat.reduceBEq, Nat.reduceAdd, Nat.reduceLeDiff, Nat.reduceSub, reduceCtorEq, ↓reduceIte, c21_0, q2, q4, q5, q6, q20, q21, q22, hB, f1, hix, mapOf_mp, lk_set, hin, hin2, found_someF, found_noneF, Bool.not_true, Bool.not_false]
       rw [show [AV.str f.name] = strs [f.name] from rfl, append_loc hB rfl ht1 cells_strs cells_strs (by simp only [strs, List.length_map, List.length_singleton]; omega)]
       have e8 : strs (unOf (ps.take i) dl nl) ++ strs [f.name] = strs (unOf (ps.take (i + 1)) dl nl) := by rw [hu2, strs, strs, strs, List.map_append]
       simp only [go_sem, Nat.reduceBEq, Nat.reduceAdd, Nat.reduceLeDiff, Nat.reduceSub, reduceCtorEq, ↓reduceIte, q2, q4, q5, q6, q20, q21, q22, hB, f2, e8, ← hu1]
       exact hnx (ps.length - (i + 1)) _ (by omega) ⟨i + 1, _, t2, _, _, _, _, _, hlt, rfl, q2, q4, q5, q6, q20, q21, rfl, rfl, .inr (.inr ⟨_, rfl, rfl⟩), ht2⟩
   · rw [if_neg hin] at hu1
     rw [if_neg (fun h => hin h.1), List.append_nil] at hu2
     simp only [go_sem, Nat.reduceBEq, Nat.reduceAdd, Nat.reduceLeDiff, Nat.reduceSub, reduceCtorEq, ↓reduceIte, c21_0, q2, q4, q5, q6, q20, q21, q22, hB, f1, hix, mapOf_mp, lk_set, hin, found_noneF, Bool.not_false]
     rw [show [AV.str f.name] = strs [f.name] from rfl, append_loc hB rfl ht2 cells_strs cells_strs (by simp only [strs, List.length_map, List.length_singleton]; omega)]
     have e8 : strs (undOf (ps.take i) dl) ++ strs [f.name] = strs (undOf (ps.take (i + 1)) dl) := by rw [hu1, strs, strs, strs, List.map_append]
     simp only [go_sem, Nat.reduceBEq, Nat.reduceAdd, Nat.reduceLeDiff, Nat.reduceSub, reduceCtorEq, ↓reduceIte, q2, q4, q5, q6, q20, q21, q22, hB, f2, e8, ← hu2]
     exact hnx (ps.length - (i + 1)) _ (by omega) ⟨i + 1, t1, _, _, _, _, _, _, hlt, rfl, q2, q4, q5, q6, q20, q21, rfl, rfl, ht1, .inr (.inr ⟨_, rfl, rfl⟩)⟩
 · have f1 : decide ((i : Int) < (ps.length : Int)) = false := by rw [decide_eq_false_iff_not]; omega
   have hti : ps.take i = ps := List.take_of_length_le (by omega)
   simp only [go_sem, Nat.reduceBEq, Nat.reduceAdd, Nat.reduceLeDiff, Nat.reduceSub, reduceCtorEq, ↓reduceIte, c21_0, q2, q4, q5, q6, q20, q21, q22, f1]
   refine he _ _ ?_
   rw [hti]
   exact hQ _ t1 t2 _ _ _ _ _ _ (by simp [upd_at, q2]) (by simp [upd_at, q4])
theorem pure21 {s : Sys} (hs : SysV s) : Pure Gam 21 [eSys s] (.tup [eTf (findT s), .int .i64 0]) := by
 have hp31 := pure31 hs
 have hbl : ∀ c ∈ s.clauses, c.body.length ≤ 2 ^ 20 := fun c hc => by have := (hs.clauses c hc).2.1; omega
 have hcl : s.clauses.length ≤ 2 ^ 20 := by have := hs.len; omega
 have hpl : s.preds.length ≤ 5 := hs.preds.length_le
 rw [eSys] at hp31
 refine Pure.of rfl fn21 rfl rfl rfl (az := [eSys s]) rfl (by simp [idsL, ids_sys]) fun D B clk T hB hT => ?_
 simp only [go_sem, Nat.reduceBEq, Nat.reduceAdd, Nat.reduceLeDiff, Nat.reduceSub, reduceCtorEq, ↓reduceIte, af21, hB, eSys, CK_pure hp31, Bool.not_true]
 have h44 := fun h clk Q => wc44 (s := s) (h := h) (clk := clk) (Q := Q) hcl hbl
 rw [eSys] at h44
 refine CK_of_WC (h44 _ _ _ fun gD dl d0 d2 c2 hdl => ?_)
 have hlen8 : ∀ a0 a1 a2 a3 a4 a5 a6 a7 : AObj, (D ++ [a0, a1, a2, a3, a4, a5, a6, a7]).length = B + 8 := fun _ _ _ _ _ _ _ _ => by simp [hB]
 simp only [go_sem, Nat.reduceBEq, Nat.reduceAdd, Nat.reduceLeDiff, Nat.reduceSub, reduceCtorEq, ↓reduceIte, hB, hlen8, List.append_assoc]
 have h45 := fun sD gD h clk Q => wc45 (s := s) (dl := dl) (sD := sD) (gD := gD) (h := h) (clk := clk) (Q := Q) hcl hbl hdl
 rw [eSys] at h45
 have hh : ∀ a0 a1 a2 a3 a4 a5 a6 a7, Has [(B + 9, .map gD (nameSet dl))] (D ++ [a0, a1, a2, a3, a4, a5, a6, a7, d0, .map gD (nameSet dl), d2]) := fun _ _ _ _ _ _ _ _ => has_loc hB rfl
 refine CK_of_WC (h45 _ _ _ _ _ (hh _ _ _ _ _ _ _ _) fun gN nl n0 n2 n3 c3 hnl => ?_)
 have hlen11 : ∀ a0 a1 a2 a3 a4 a5 a6 a7 a8 a9 a10 : AObj, (D ++ [a0, a1, a2, a3, a4, a5, a6, a7, a8, a9, a10]).length = B + 11 := fun _ _ _ _ _ _ _ _ _ _ _ => by simp [hB]
 simp only [go_sem, Nat.reduceBEq, Nat.reduceAdd, Nat.reduceLeDiff, Nat.reduceSub, reduceCtorEq, ↓reduceIte, hB, hlen11, List.append_assoc, List.length_map]
 refine findLoop (ps := s.preds) (dl := dl) (nl := nl) (g1 := clk + 1) hB (by omega) (by simp [upd_at]) (by simp [upd_at]) (by simp [upd_at]) (by simp [upd_at]) (by simp [upd_at]) (by simp [upd_at]) (by simp [upd_at]) fun ts' t1 t2 p o4 o5 o6 o7 clk' r2 r4 => ?_
 simp only [go_sem, Nat.reduceBEq, Nat.reduceAdd, Nat.reduceLeDiff, Nat.reduceSub, reduceCtorEq, ↓reduceIte, r2, r4, hB, res_cell, resC_ptr, rconsO_some]
 rw [RV_some rfl (by simp [oneOf, AV.cv, cvL, AV.ids, idsL, ids_strs])]
 rw [undOf_eq hdl, unOf_eq hdl hnl]
 exact hT _
theorem pure76 {l : List (List Nat)} {a : List Nat} {u : Tip} (hl : l.length ≤ 2 ^ 20) : ∃ r : Int, decide (0 ≤ r) = decide (a ∈ l) ∧ Pure Gam 76 [.sl (strs l) u, .str a] (.int .i64 r) := by
 have key : ∀ n, n ≤ l.length → ∃ r : Int, decide (0 ≤ r) = decide (a ∈ l.drop (l.length - n)) ∧ ∀ (D L : List AObj) (B clk : Nat) (ks : List Kf) (ts : Tmps) (Q : Post), ts 0 = .sl (strs l) .no → ts 1 = .str a → ts 7 = .int .i64 (l.length : Int) → ts 8 = .int .i64 ((l.length - n : Nat) : Int) →
     (∀ ts' clk', ts' 4 = .int .i64 r → K Gam B .ret ks ⟨ts', D ++ L, clk'⟩ Q) → (r = -1 → ∀ ts' clk', K Gam B (.exit 0) ks ⟨ts', D ++ L, clk'⟩ Q) → K Gam B (.loop c76_0) ks ⟨ts, D ++ L, clk⟩ Q := by
   intro n
   induction n with
   | zero =>
     intro _
     refine ⟨-1, by simp, fun D L B clk ks ts Q h0 h1 h7 h8 _ hx => ?_⟩
     have e1 : decide (((l.length - 0 : Nat) : Int) < (l.length : Int)) = false := by rw [decide_eq_false_iff_not]; omega
     refine K_unroll ?_
     simp only [go_sem, Nat.reduceBEq, h0, h1, h7, h8, c76_0, e1]
     exact hx rfl _ _
   | succ n ih =>
     intro hn
     have hk : l.length - (n + 1) < l.length := by omega
     have hdr : l.drop (l.length - (n + 1)) = l[l.length - (n + 1)] :: l.drop (l.length - n) := by
       rw [List.drop_eq_getElem_cons hk]
       congr 2
       omega
     have e1 : decide (((l.length - (n + 1) : Nat) : Int) < (l.length : Int)) = true := by rw [decide_eq_true_iff]; omega
     have hidx : ∀ h, idxAV h 1 (.sl (strs l) .no) (.int .i64 ((l.length - (n + 1) : Nat) : Int)) = some (.iptr [.str l[l.length - (n + 1)]] 0, h) := fun h => idxAV_sl (e := .str l[l.length - (n + 1)]) (by simp [strs, hk]) rfl
     generalize l[l.length - (n + 1)] = x at hdr hidx
     by_cases hax : a = x
     · subst hax
       refine ⟨((l.length - (n + 1) : Nat) : Int), ?_, fun D L B clk ks ts Q h0 h1 h7 h8 hr _ => ?_⟩
       · rw [hdr]
         simp
       · refine K_unroll ?_
         simp only [go_sem, Nat.reduceBEq, h0, h1, h7, h8, c76_0, e1, hidx, decide_true]
         exact hr _ _ (by simp [upd_at])
     · have e3 : decide (a = x) = false := by rw [decide_eq_false_iff_not]; exact hax
       obtain ⟨r, h1', h2'⟩ := ih (by omega)
       refine ⟨r, by rw [h1', hdr]; simp [hax], fun D L B clk ks ts Q h0 h1 h7 h8 hr hx => ?_⟩
       have e2 : IntKind.i64.wrap (((l.length - (n + 1) : Nat) : Int) + 1) = ((l.length - n : Nat) : Int) := by rw [wrap_i64 (by omega) (by omega)]; omega
       refine K_unroll ?_
       simp only [go_sem, Nat.reduceBEq, h0, h1, h7, h8, c76_0, e1, hidx, e3, e2]
       exact h2' D L B _ ks _ Q (by simp [upd_at, h0]) (by simp [upd_at, h1]) (by simp [upd_at, h7]) (by simp [upd_at]) hr hx
 obtain ⟨r, h1, h2⟩ := key l.length (Nat.le_refl _)
 rw [Nat.sub_self, List.drop_zero] at h1
 refine ⟨r, h1, Pure.of rfl fn76 rfl rfl rfl (az := [.sl (strs l) .no, .str a]) rfl (by simp [idsL, AV.ids, ids_strs]) fun D B clk T hB hT => ?_⟩
 have hsl : (strs l).length = l.length := List.length_map _
 simp only [go_sem, Nat.reduceBEq, af76, hsl]
 refine h2 D _ B _ _ _ _ (by simp [upd_at, entry_zero]) (by simp [upd_at, entry_succ, entry_zero]) (by simp [upd_at]) (by simp [upd_at]) (fun ts' clk' q4 => ?_) (fun hr0 ts' clk' => ?_)
 · simp only [go_sem, Nat.reduceBEq, q4]
   rw [RV_int]
   exact hT _
 · simp only [go_sem, Nat.reduceBEq, ]
   rw [RV_int, ← hr0]
   exact hT _
theorem pure91 {l : List (List Nat)} {a : List Nat} {u : Tip} (hl : l.length ≤ 2 ^ 20) : Pure Gam 91 [.sl (strs l) u, .str a] (.bool (decide (a ∈ l))) := by
 obtain ⟨r, h1, h2⟩ := pure76 (a := a) (u := .no) hl
 refine Pure.of rfl fn91 rfl rfl rfl (az := [.sl (strs l) .no, .str a]) rfl (by simp [idsL, AV.ids, ids_strs]) fun D B clk T hB hT => ?_
 simp only [go_sem, Nat.reduceBEq, af91, CK_pure h2, h1]
 rw [RV_bool]
 exact hT _
theorem pure75 {ps : List Func} {u : Tip} (hl : ps.length ≤ 1000) : Pure Gam 75 [.sl (ps.map eFunc) u] (.sl (strs (ps.map (·.name))) .no) := by
 refine Pure.of rfl fn75 rfl rfl rfl (az := [.sl (ps.map eFunc) .no]) rfl (by simp [idsL, AV.ids, idsL_map ids_func]) fun D B clk T hB hT => ?_
 simp only [go_sem, Nat.reduceBEq, Nat.reduceAdd, Nat.reduceLeDiff, Nat.reduceSub, reduceCtorEq, ↓reduceIte, af75, List.length_map]
 refine K_loop (fun m q => ∃ (i : Nat) (t : Tip) (a b o : AObj), i ≤ ps.length ∧ m = ps.length - i ∧ q.ts 3 = .sl (strs ((ps.take i).map (·.name))) t ∧ q.ts 6 = .sl (ps.map eFunc) .no ∧ q.ts 7 = .int .i64 (ps.length : Int) ∧ q.ts 8 = .int .i64 (i : Int) ∧ q.h = D ++ [a, b, o] ∧ TipK B 2 o t 1) ps.length ⟨0, .nil, _, _, _, by omega, rfl, rfl, rfl, rfl, rfl, rfl, .inl rfl⟩ ?_
 rintro m ⟨ts, h, clk⟩ P ⟨i, t, a, b, o, hi, rfl, q3, q6, q7, q8, rfl, ht⟩ hnx he hr
 dsimp only at q3 q6 q7 q8
 by_cases hlt : i < ps.length
 · have f1 : decide ((i : Int) < (ps.length : Int)) = true := by rw [decide_eq_true_iff]; omega
   have f2 : IntKind.i64.wrap ((i : Int) + 1) = ((i + 1 : Nat) : Int) := wrap_i64 (by omega) (by omega)
   have hix := fun h => func_idx (l := ps) (i := i) (h := h) (t := .no) (k := .i64) hlt
   have htake : ps.take (i + 1) = ps.take i ++ [ps[i]] := List.take_succ_eq_append_getElem hlt
   have e8 : strs ((ps.take i).map (·.name)) ++ strs [ps[i].name] = strs ((ps.take (i + 1)).map (·.name)) := by rw [htake, strs, strs, strs, List.map_append, List.map_append]; rfl
   generalize ps[i] = f at *
   simp only [go_sem, Nat.reduceBEq, Nat.reduceAdd, Nat.reduceLeDiff, Nat.reduceSub, reduceCtorEq, ↓reduceIte, c75_0, q3, q6, q7, q8, hB, f1, hix]
   rw [show [AV.str f.name] = strs [f.name] from rfl, append_loc hB rfl ht cells_strs cells_strs (by simp only [strs, List.length_map, List.length_singleton, List.length_take]; omega)]
   simp only [go_sem, Nat.reduceBEq, Nat.reduceAdd, Nat.reduceLeDiff, Nat.reduceSub, reduceCtorEq, ↓reduceIte, q3, q6, q7, q8, f2, e8]
   exact hnx (ps.length - (i + 1)) _ (by omega) ⟨i + 1, _, _, _, _, hlt, rfl, rfl, q6, q7, rfl, rfl, .inr (.inr ⟨_, rfl, rfl⟩)⟩
 · have f1 : decide ((i : Int) < (ps.length : Int)) = false := by rw [decide_eq_false_iff_not]; omega
   have hti : ps.take i = ps := List.take_of_length_le (by omega)
   rw [hti] at q3
   simp only [go_sem, Nat.reduceBEq, Nat.reduceAdd, Nat.reduceLeDiff, Nat.reduceSub, reduceCtorEq, ↓reduceIte, c75_0, q3, q6, q7, q8, f1]
   refine he _ _ ?_
   simp only [go_sem, Nat.reduceBEq, Nat.reduceAdd, Nat.reduceLeDiff, Nat.reduceSub, reduceCtorEq, ↓reduceIte, q3]
   rw [RV_one rfl (by simp [AV.cv, AV.ids, ids_strs])]
   exact hT _
structure TfOk (x : Tf) : Prop where
 un : x.un.length ≤ 2 ^ 18
 und : x.und.length ≤ 2 ^ 18
 drops : idsL x.drops = []
theorem ids_tf {x : Tf} (hx : TfOk x) : (eTf x).ids = [] := by simp [eTf, AV.ids, idsL, ids_strs, hx.drops]
theorem obs_tf {x : Tf} : (eTf x).obs = [] := (rfl)
theorem pure49 {x : Tf} {a : List Nat} (hx : TfOk x) : Pure Gam 49 [eTf x, .str a] (.bool (decide (a ∈ x.un) || decide (a ∈ x.und))) := by
 have p1 := pure91 (l := x.un) (a := a) (u := .no) (by have := hx.un; omega)
 have p2 := pure91 (l := x.und) (a := a) (u := .no) (by have := hx.und; omega)
 refine Pure.of rfl fn49 rfl rfl rfl (az := [eTf x, .str a]) rfl (by simp [idsL, AV.ids, ids_tf hx]) fun D B clk T hB hT => ?_
 cases h1 : decide (a ∈ x.un) with
 | true =>
   rw [h1] at p1 hT
   simp only [go_sem, Nat.reduceBEq, af49, hB, eTf, CK_pure p1]
   rw [RV_bool]
   exact hT _
 | false =>
   rw [h1] at p1 hT
   rw [Bool.false_or] at hT
   simp only [go_sem, Nat.reduceBEq, af49, hB, eTf, CK_pure p1, CK_pure p2]
   rw [RV_bool]
   exact hT _
theorem reads90 {s g : Nat} {x : Tf} {a : App} (hx : TfOk x) : Reads [(s, .blk g [eTf x] false false 0)] 90 [eApp a, .ptr s g 0 0] (.bool (decide (a.pred ∈ x.und))) := by
 have p2 := pure91 (l := x.und) (a := a.pred) (u := .no) (by have := hx.und; omega)
 refine Reads.of rfl fn90 rfl rfl rfl (az := [eApp a, .ptr s g 0 0]) rfl (by simpa [idsL, AV.ids, ids_app] using Cov.one (s := s) (o := .blk g [eTf x] false false 0) (by simp [AObj.ids, idsL, ids_tf hx])) fun D B clk T hB hS hlt hT => ?_
 have h1 := hlt (s, .blk g [eTf x] false false 0) (by simp)
 have b1 := blk_at (g := g) (hS (s, .blk g [eTf x] false false 0) (by simp))
 dsimp only at h1 b1
 rw [eTf] at b1
 simp only [go_sem, Nat.reduceBEq, Nat.reduceAdd, ↓reduceIte, af90, hB, eApp, out_blk hB h1, b1, CK_pure p2]
 rw [RV_bool]
 exact hT _ hS.app
theorem reads92 {s g : Nat} {x : Tf} {a : App} (hx : TfOk x) : Reads [(s, .blk g [eTf x] false false 0)] 92 [eApp a, .ptr s g 0 0] (.bool (decide (a.pred ∈ x.un))) := by
 have p2 := pure91 (l := x.un) (a := a.pred) (u := .no) (by have := hx.un; omega)
 refine Reads.of rfl fn92 rfl rfl rfl (az := [eApp a, .ptr s g 0 0]) rfl (by simpa [idsL, AV.ids, ids_app] using Cov.one (s := s) (o := .blk g [eTf x] false false 0) (by simp [AObj.ids, idsL, ids_tf hx])) fun D B clk T hB hS hlt hT => ?_
 have h1 := hlt (s, .blk g [eTf x] false false 0) (by simp)
 have b1 := blk_at (g := g) (hS (s, .blk g [eTf x] false false 0) (by simp))
 dsimp only at h1 b1
 rw [eTf] at b1
 simp only [go_sem, Nat.reduceBEq, Nat.reduceAdd, ↓reduceIte, af92, hB, eApp, out_blk hB h1, b1, CK_pure p2]
 rw [RV_bool]
 exact hT _ hS.app
section
variable {h : List AObj} {base g k : Nat} {ts : Tmps} {z : AV} {dst : Option Nat} {os : List AOper} {clk : Nat} {ks : List Kf} {Q : Post}
def mrV (h : List AObj) (s g : Nat) (z : AV) (bytes : Nat) : AV → AV → Option (AV × List AObj)
 | .sl [] .nil, .int _ m =>
   if m = 0 then some (.sl [] .nil, h)
   else if 0 < m ∧ m * (bytes + 1) ≤ roomBound ∧ z.def? = true then some (.ob s g 0 m.toNat, h.set s (.blk g (List.replicate m.toNat z) true true 0))
   else none
 | _, _ => none
theorem O_makeRow {b : Nat} {x n : AOpd} : O Gam base .plain g (⟨dst, .makeRow k z b x n, none⟩ :: os) ⟨ts, h, clk⟩ ks Q = PP Gam base (mrV h (base + k) g z b (x.ev ts) (n.ev ts)) dst g os ts clk ks Q := by
 rw [O_pp rfl]
 congr 1
theorem mrV_ok {s b n : Nat} {z : AV} {k : IntKind} (hz : z.def? = true) (h0 : 0 < n) (hn : (n : Int) * ((b : Int) + 1) ≤ 2 ^ 46) : mrV h s g z b (.sl [] .nil) (.int k (n : Int)) = some (.ob s g 0 n, h.set s (.blk g (List.replicate n z) true true 0)) := by
 have h1 : (0 < (n : Int) ∧ (n : Int) * (b + 1) ≤ (roomBound : Int) ∧ z.def? = true) := ⟨by omega, by simpa [roomBound] using hn, hz⟩
 have h2 : ¬ (n : Int) = 0 := by omega
 simp only [mrV, h2, if_false, if_pos h1, Int.toNat_natCast]
end
attribute [go_sem] O_makeRow
theorem cap_nil {h : List AObj} : lenV h .cap (.sl [] .nil) = some (.int .i64 0, h) := (rfl)
theorem sl_nil {h : List AObj} : slV h (some 1) (.sl [] .nil) none (some (.int .i64 0)) none = some (.sl [] .nil, h) := (rfl)
theorem run185_zero {D : List AObj} {B clk : Nat} (hB : D.length = B) : K Gam B af185.body [] ⟨entry [.sl [] .nil, .int .i64 0], D ++ [.dead], clk⟩ (fun e s => e = .ret ∧ s.ts 4 = .sl [] .nil ∧ s.h = D ++ [.dead]) := by
 have e1 : decide ((0 : Int) < 0) = false := rfl
 have e2 : IntKind.i64.wrap (0 - 0) = 0 := by decide
 simp only [go_sem, Nat.reduceBEq, af185, hB, e1, cap_nil, e2]
theorem run185_pos {D : List AObj} {B clk n : Nat} (hB : D.length = B) (h0 : 0 < n) (hn : n ≤ 2 ^ 30) : K Gam B af185.body [] ⟨entry [.sl [] .nil, .int .i64 (n : Int)], D ++ [.dead], clk⟩ (fun e s => e = .ret ∧ ∃ g, s.ts 4 = .ob (B + 0) g 0 0 ∧ s.h = D ++ [.blk g (List.replicate n (.str [])) true true 0]) := by
 have e1 : decide ((n : Int) < 0) = false := by rw [decide_eq_false_iff_not]; omega
 have e2 : IntKind.i64.wrap (0 - 0) = 0 := by decide
 have e3 : IntKind.i64.wrap ((n : Int) - 0) = (n : Int) := by rw [wrap_i64 (by omega) (by omega)]; omega
 have e4 : decide ((0 : Int) < (n : Int)) = true := by rw [decide_eq_true_iff]; omega
 have hmr : ∀ h s g, mrV h s g (.str []) 16 (.sl [] .nil) (.int .i64 (n : Int)) = some (.ob s g 0 n, h.set s (.blk g (List.replicate n (.str [])) true true 0)) := fun h s g => mrV_ok rfl h0 (by omega)
 have hsl : ∀ g, slV (D ++ [.blk g (List.replicate n (.str [])) true true 0]) (some 1) (.ob (B + 0) g 0 n) none (some (.int .i64 0)) none = some (.ob (B + 0) g 0 0, D ++ [.blk g (List.replicate n (.str [])) true true 0]) := fun g => by
   have hb : blkAt (D ++ [.blk g (List.replicate n (AV.str [])) true true 0]) (B + 0) g = some (List.replicate n (.str []), true, true, 0) := by rw [loc_blk hB]; simp [blkAt]
   have hh : headLen 1 (List.replicate n (AV.str [])) = true := by cases n <;> rfl
   simp only [slV, sliceVal, hb, bound, Int.le_refl, if_true, Int.toNat_zero, hh, List.length_replicate]
   simp
 simp only [go_sem, Nat.reduceBEq, af185, hB, e1, cap_nil, e2, e3, e4, sl_nil, hmr, hsl]
 exact ⟨_, rfl, rfl⟩
theorem wc185 {n : Nat} {h : List AObj} {clk : Nat} {Q : AV → List AObj → Nat → Prop} (hn : n ≤ 2 ^ 30) (h0 : n = 0 → Q (.sl [] .nil) h clk) (h1 : 0 < n → ∀ g c, Q (.ob h.length g 0 0) (h ++ [.blk g (List.replicate n (.str [])) true true 0]) c) : WC Gam 185 [.sl [] .nil, .int .i64 (n : Int)] h clk Q := by
 have hp : passArgs h af185.byref 0 [.sl [] .nil, .int .i64 (n : Int)] = some [.sl [] .nil, .int .i64 (n : Int)] := rfl
 have hl : lentSlots af185.byref 0 [.sl [] .nil, .int .i64 (n : Int)] = [] := rfl
 have hids : idsL [.sl [] .nil, .int .i64 (n : Int)] = [] := rfl
 have hext : Gam.ext 185 = none := rfl
 have hown : af185.owned = true := rfl
 have hres : af185.results = [.tmp 4] := rfl
 have hns : List.replicate af185.nslots AObj.dead = [.dead] := rfl
 rcases Nat.eq_zero_or_pos n with rfl | hpos
 · obtain ⟨k, e, s, he, rfl, hs4, hsh⟩ := run185_zero (D := maskFrom [] 0 h) (clk := clk) mask_len
   refine ⟨k, .sl [] .nil, h, clk, ?_, h0 rfl⟩
   unfold callA callWith
   rw [← hns] at he
   simp only [hext, fn185, hp, hl, freezeAll, hids, reach]
   rw [show ((0 : Nat) : Int) = 0 from rfl]
   simp only [he, hres, resultsA, hs4, hown, if_true, Option.map_some, oneOf, merge_nil]
   rfl
 · obtain ⟨k, e, s, he, rfl, g, hs4, hsh⟩ := run185_pos (D := maskFrom [] 0 h) (clk := clk) mask_len hpos hn
   refine ⟨k, .ob h.length g 0 0, h ++ [.blk g (List.replicate n (.str [])) true true 0], s.clk, ?_, h1 hpos _ _⟩
   unfold callA callWith
   rw [← hns] at he
   have hdrop : s.h.drop h.length = [.blk g (List.replicate n (.str [])) true true 0] := by rw [hsh, List.drop_left' mask_len]
   simp only [hext, fn185, hp, hl, freezeAll, hids, reach, he, hres, resultsA, hs4, hown, if_true, Option.map_some, oneOf, merge_nil, hdrop, AV.ids, ite_self]
   simp
end Go.Proofs.YtbeooboebfbchaaGreatDoor.Am
