/- Walking: lists of names are joined (2). Walking: the set of removed predicates; the kind of a transformation. Walking: the clauses that remain. Walking: copies with memory of their own. -/
import Derived.Test.YtbeooboebfbchaaGreatDoorM46
set_option linter.unusedVariables false
set_option linter.unusedSimpArgs false
namespace Go.Proofs.YtbeooboebfbchaaGreatDoor.Am
open Go
set_option maxRecDepth 100000
def eStrs (l : List (List Nat)) : AV := .sl (strs l) .no
theorem ids_eStrs {l : List (List Nat)} : (eStrs l).ids = [] := by simp [eStrs, AV.ids, ids_strs]
theorem flat_take {ls : List (List (List Nat))} {i : Nat} (hi : i < ls.length) : (ls.take (i + 1)).flatten = (ls.take i).flatten ++ ls[i] := by
 rw [List.take_succ_eq_append_getElem hi, List.flatten_append]
 simp
theorem flat_le {ls : List (List (List Nat))} {i : Nat} : (ls.take i).flatten.length ≤ ls.flatten.length := by
 have := congrArg (fun x => (List.flatten x).length) (List.take_append_drop i ls)
 simp only [List.flatten_append, List.length_append] at this
 omega
def JoinSt (B n : Nat) (acc : List (List Nat)) (r : AV) (o0 o1 : AObj) : Prop :=
 (n = 0 ∧ acc = [] ∧ ∃ u, r = .sl [] u ∧ TipK B 0 o0 u 1) ∨
 (0 < n ∧ acc = [] ∧ ∃ g, r = .ob (B + 1) g 0 0 ∧ o1 = .blk g (List.replicate n (.str [])) true true 0) ∨
 (0 < n ∧ acc ≠ [] ∧ ∃ g, r = .ob (B + 0) g 0 acc.length ∧ o0 = .blk g (strs acc) true true 0)
theorem join_step {D : List AObj} {B n gen : Nat} {acc x : List (List Nat)} {r : AV} {o0 : AObj} {L : List AObj} (hB : D.length = B) (hL : L = [o0] ∨ ∃ o1, L = [o0, o1]) (hn : n ≤ 2 ^ 20) (hacc : (acc ++ x).length ≤ n) (hst : JoinSt B n acc r o0 (L.getD 1 .dead)) (hpos : 0 < n → L.length = 2) :
   ∃ r' o0' L', appendVal (D ++ L) (B + 0) gen 1 16 false r (.sl (strs x) .no) = some (r', D ++ L') ∧ (L' = [o0'] ∨ ∃ o1, L' = [o0', o1]) ∧ JoinSt B n (acc ++ x) r' o0' (L'.getD 1 .dead) ∧ (0 < n → L'.length = 2) := by
 have hlen : (acc ++ x).length = acc.length + x.length := List.length_append
 have hsx : (strs x).length = x.length := List.length_map _
 have hL0 : L[0]? = some o0 := by rcases hL with rfl | ⟨o1, rfl⟩ <;> rfl
 rcases hst with ⟨rfl, rfl, u, rfl, hu⟩ | ⟨h0, rfl, g, rfl, ho1⟩ | ⟨h0, hne, g, rfl, ho0⟩
 · have hx : x = [] := by simpa using hacc
   subst hx
   have := append_loc (D := D) (L := L) (B := B) (k := 0) (esz := 1) (b := 16) (gen := gen) (xs := []) (ys := []) (t := u) (u := .no) (o := o0) hB hL0 hu rfl rfl (by simp)
   refine ⟨.sl [] (.at (B + 0) gen), .tip gen 1, L.set 0 (.tip gen 1), this, ?_, .inl ⟨rfl, rfl, _, rfl, .inr (.inr ⟨gen, rfl, rfl⟩)⟩, fun h => absurd h (by omega)⟩
   rcases hL with rfl | ⟨o1, rfl⟩
   · exact .inl rfl
   · exact .inr ⟨o1, rfl⟩
 · obtain ⟨o1, rfl⟩ : ∃ o1, L = [o0, o1] := by
     rcases hL with rfl | h
     · have := hpos h0; simp at this
     · exact h
   simp at ho1
   subst ho1
   have hb : blkAt (D ++ [o0, .blk g (List.replicate n (AV.str [])) true true 0]) (B + 1) g = some (List.replicate n (.str []), true, true, 0) := by rw [loc_blk hB]; simp [blkAt]
   have hxn : x.length ≤ n := by simpa using hacc
   have hgt : ¬ x.length * (16 + 1) > roomBound := by unfold roomBound; omega
   have hall : allCells 1 (List.replicate n (AV.str [])) = true := by
     have := cells_strs (l := List.replicate n [])
     simpa [strs] using this
   by_cases hx : x = []
   · subst hx
     refine ⟨.ob (B + 1) g 0 0, o0, [o0, .blk g (List.replicate n (.str [])) true true 0], ?_, .inr ⟨_, rfl⟩, .inr (.inl ⟨h0, rfl, g, rfl, rfl⟩), fun _ => rfl⟩
     unfold appendVal
     simp [srcOf, strs, allCells, hb, hall, roomBound]
   · have hxl : 0 < x.length := List.length_pos_iff.2 hx
     refine ⟨.ob (B + 0) gen 0 x.length, .blk gen (strs x) true true 0, [.blk gen (strs x) true true 0, .dead], ?_, .inr ⟨_, rfl⟩, .inr (.inr ⟨h0, by simpa using hx, gen, by simp, by simp⟩), fun _ => rfl⟩
     unfold appendVal
     have hemp : (strs x).isEmpty = false := by cases x with
       | nil => exact absurd rfl hx
       | cons a x => rfl
     simp only [srcOf, cells_strs, Bool.not_true, Bool.false_eq_true, if_false, hb, hsx, decide_eq_true_eq, hgt, hall, beq_self_eq_true, decide_false, Bool.or_self, hemp, if_true, Nat.zero_le, Nat.le_refl, List.length_replicate, true_and, h0, List.take_zero, List.nil_append, Nat.zero_add, loc_set hB, List.set_cons_succ, List.set_cons_zero]
 · obtain ⟨o1, rfl⟩ : ∃ o1, L = [o0, o1] := by
     rcases hL with rfl | h
     · have := hpos h0; simp at this
     · exact h
   subst ho0
   have hb : blkAt (D ++ [.blk g (strs acc) true true 0, o1]) (B + 0) g = some (strs acc, true, true, 0) := by rw [loc_blk hB]; simp [blkAt]
   have hgt : ¬ (acc.length + x.length) * (16 + 1) > roomBound := by unfold roomBound; omega
   have hsa : (strs acc).length = acc.length := List.length_map _
   by_cases hx : x = []
   · subst hx
     refine ⟨.ob (B + 0) g 0 acc.length, .blk g (strs acc) true true 0, [.blk g (strs acc) true true 0, o1], ?_, .inr ⟨_, rfl⟩, .inr (.inr ⟨h0, by simpa using hne, g, by simp, by rw [List.append_nil]⟩), fun _ => rfl⟩
     have : ¬ acc.length * (16 + 1) > roomBound := by simpa using hgt
     have hb0 := hb
     rw [Nat.add_zero] at hb0
     unfold appendVal
     simp only [srcOf, show strs [] = [] from rfl, allCells, Bool.not_true, Bool.false_eq_true, if_false, hb0, List.length_nil, Nat.add_zero, decide_eq_true_eq, this, cells_strs, beq_self_eq_true, decide_false, Bool.or_self, List.isEmpty_nil, if_true]
   · have hemp : (strs x).isEmpty = false := by cases x with
       | nil => exact absurd rfl hx
       | cons a x => rfl
     have hapos : 0 < acc.length := List.length_pos_iff.2 hne
     refine ⟨.ob (B + 0) gen 0 (acc ++ x).length, .blk gen (strs (acc ++ x)) true true 0, [.blk gen (strs (acc ++ x)) true true 0, o1], ?_, .inr ⟨_, rfl⟩, .inr (.inr ⟨h0, by simp [hne], gen, rfl, rfl⟩), fun _ => rfl⟩
     unfold appendVal
     simp only [srcOf, cells_strs, Bool.not_true, Bool.false_eq_true, if_false, hb, hsx, decide_eq_true_eq, hgt, beq_self_eq_true, decide_false, Bool.or_self, hemp, if_true, Nat.zero_le, hsa, Nat.le_refl, true_and, hapos, loc_set hB, List.set_cons_zero]
     rw [List.take_of_length_le (by rw [hsa]; exact Nat.le_refl _), hlen]
     simp [strs]
theorem catSum {ls : List (List (List Nat))} {B clk : Nat} {D L : List AObj} {v0 : AV} {ts : Tmps} {ks : List Kf} {Q : Post} (hl : ls.length ≤ 1000) (hf : ls.flatten.length ≤ 2 ^ 20) (h0 : ts 0 = v0) (h3 : ts 3 = .int .i64 0) (h9 : ts 9 = .sl (ls.map eStrs) .no) (h10 : ts 10 = .int .i64 (ls.length : Int)) (h11 : ts 11 = .int .i64 0)
   (hQ : ∀ (ts' : Tmps) (clk' : Nat), ts' 0 = v0 → ts' 3 = .int .i64 (ls.flatten.length : Int) → K Gam B (.exit 0) ks ⟨ts', D ++ L, clk'⟩ Q) : K Gam B (.loop c138_1) ks ⟨ts, D ++ L, clk⟩ Q := by
 refine K_loop (fun m q => ∃ i : Nat, i ≤ ls.length ∧ m = ls.length - i ∧ q.ts 0 = v0 ∧ q.ts 3 = .int .i64 ((ls.take i).flatten.length : Int) ∧ q.ts 9 = .sl (ls.map eStrs) .no ∧ q.ts 10 = .int .i64 (ls.length : Int) ∧ q.ts 11 = .int .i64 (i : Int) ∧ q.h = D ++ L) ls.length ⟨0, by omega, rfl, h0, h3, h9, h10, h11, rfl⟩ ?_
 clear h0 h3 h9 h10 h11
 rintro m ⟨ts, h, clk⟩ P ⟨i, hi, rfl, q0, q3, q9, q10, q11, rfl⟩ hnx he hr
 dsimp only at q0 q3 q9 q10 q11
 by_cases hlt : i < ls.length
 · have f1 : decide ((i : Int) < (ls.length : Int)) = true := by rw [decide_eq_true_iff]; omega
   have f2 : IntKind.i64.wrap ((i : Int) + 1) = ((i + 1 : Nat) : Int) := wrap_i64 (by omega) (by omega)
   have hix : ∀ h, idxAV h 1 (.sl (ls.map eStrs) .no) (.int .i64 (i : Int)) = some (.iptr [.sl (strs ls[i]) .no] 0, h) := fun h => idx_map hlt rfl rfl
   have hfl := flat_take hlt
   have hle := flat_le (ls := ls) (i := i + 1)
   have hll := congrArg List.length hfl
   rw [List.length_append] at hll
   have hsl : (strs ls[i]).length = ls[i].length := List.length_map _
   generalize ls[i] = x at *
   have f3 : IntKind.i64.wrap (((ls.take i).flatten.length : Int) + (x.length : Int)) = ((ls.take (i + 1)).flatten.length : Int) := by rw [wrap_i64 (by omega) (by omega)]; omega
   have f4 : decide (((ls.take (i + 1)).flatten.length : Int) < 0) = false := by rw [decide_eq_false_iff_not]; omega
   simp only [go_sem, Nat.reduceBEq, c138_1, q0, q3, q9, q10, q11, f1, hix, hsl, f3, f4, f2]
   exact hnx (ls.length - (i + 1)) _ (by omega) ⟨i + 1, hlt, rfl, q0, rfl, q9, q10, rfl, rfl⟩
 · have f1 : decide ((i : Int) < (ls.length : Int)) = false := by rw [decide_eq_false_iff_not]; omega
   have hti : ls.take i = ls := List.take_of_length_le (by omega)
   rw [hti] at q3
   simp only [go_sem, Nat.reduceBEq, c138_1, q0, q3, q9, q10, q11, f1]
   refine he _ _ ?_
   exact hQ _ _ (by simp [upd_at, q0]) (by simp [upd_at, q3])
theorem catJoin {ls : List (List (List Nat))} {B clk : Nat} {D L : List AObj} {r o0 : AV × AObj} {ts : Tmps} {ks : List Kf} {Q : Post} (hB : D.length = B) (hl : ls.length ≤ 1000) (hf : ls.flatten.length ≤ 2 ^ 20) (hL : L = [o0.2] ∨ ∃ o1, L = [o0.2, o1]) (hpos : 0 < ls.flatten.length → L.length = 2) (hst : JoinSt B ls.flatten.length [] r.1 o0.2 (L.getD 1 .dead)) (h6 : ts 6 = r.1) (h25 : ts 25 = .sl (ls.map eStrs) .no) (h26 : ts 26 = .int .i64 (ls.length : Int)) (h27 : ts 27 = .int .i64 0)
   (hQ : ∀ (ts' : Tmps) (clk' : Nat) (r' : AV) (o' : AObj) (L' : List AObj), (L' = [o'] ∨ ∃ o1, L' = [o', o1]) → (0 < ls.flatten.length → L'.length = 2) → JoinSt B ls.flatten.length ls.flatten r' o' (L'.getD 1 .dead) → ts' 6 = r' → K Gam B (.exit 2) ks ⟨ts', D ++ L', clk'⟩ Q) : K Gam B (.loop c138_0) ks ⟨ts, D ++ L, clk⟩ Q := by
 refine K_loop (fun m q => ∃ (i : Nat) (r : AV) (o : AObj) (L : List AObj), i ≤ ls.length ∧ m = ls.length - i ∧ (L = [o] ∨ ∃ o1, L = [o, o1]) ∧ (0 < ls.flatten.length → L.length = 2) ∧ JoinSt B ls.flatten.length (ls.take i).flatten r o (L.getD 1 .dead) ∧ q.ts 6 = r ∧ q.ts 25 = .sl (ls.map eStrs) .no ∧ q.ts 26 = .int .i64 (ls.length : Int) ∧ q.ts 27 = .int .i64 (i : Int) ∧ q.h = D ++ L) ls.length ⟨0, r.1, o0.2, L, by omega, rfl, hL, hpos, hst, h6, h25, h26, h27, rfl⟩ ?_
 clear h6 h25 h26 h27 hst hL hpos
 rintro m ⟨ts, h, clk⟩ P ⟨i, r, o, L, hi, rfl, hL, hpos, hst, q6, q25, q26, q27, rfl⟩ hnx he hr
 dsimp only at q6 q25 q26 q27
 by_cases hlt : i < ls.length
 · have f1 : decide ((i : Int) < (ls.length : Int)) = true := by rw [decide_eq_true_iff]; omega
   have f2 : IntKind.i64.wrap ((i : Int) + 1) = ((i + 1 : Nat) : Int) := wrap_i64 (by omega) (by omega)
   have hix : ∀ h, idxAV h 1 (.sl (ls.map eStrs) .no) (.int .i64 (i : Int)) = some (.iptr [.sl (strs ls[i]) .no] 0, h) := fun h => idx_map hlt rfl rfl
   have hfl := flat_take hlt
   have hle := flat_le (ls := ls) (i := i + 1)
   rw [hfl] at hle
   generalize ls[i] = x at *
   simp only [go_sem, Nat.reduceBEq, c138_0, q6, q25, q26, q27, f1, hix]
   obtain ⟨r', o', L', hap, hL', hst', hpos'⟩ := join_step (gen := clk + 1 + 3 + 1 + 1) hB hL hf hle hst hpos
   rw [hap]
   simp only [go_sem, Nat.reduceBEq, q25, q26, q27, f2]
   rw [← hfl] at hst'
   exact hnx (ls.length - (i + 1)) _ (by omega) ⟨i + 1, r', o', L', hlt, rfl, hL', hpos', hst', by simp [upd_at], by simp [upd_at, q25], by simp [upd_at, q26], by simp [upd_at], rfl⟩
 · have f1 : decide ((i : Int) < (ls.length : Int)) = false := by rw [decide_eq_false_iff_not]; omega
   have hti : ls.take i = ls := List.take_of_length_le (by omega)
   rw [hti] at hst
   simp only [go_sem, Nat.reduceBEq, c138_0, q6, q25, q26, q27, f1]
   refine he _ _ ?_
   exact hQ _ _ r o L hL hpos hst (by simp [upd_at, q6])
theorem pure138 {ls : List (List (List Nat))} {u : Tip} (hl : ls.length ≤ 1000) (hf : ls.flatten.length ≤ 2 ^ 20) : Pure Gam 138 [.sl (ls.map eStrs) u] (.sl (strs ls.flatten) .no) := by
 refine Pure.of rfl fn138 rfl rfl rfl (az := [.sl (ls.map eStrs) .no]) rfl (by simp [idsL, AV.ids, idsL_map (f := eStrs) fun _ => ids_eStrs]) fun D B clk T hB hT => ?_
 simp only [go_sem, Nat.reduceBEq, af138, List.length_map]
 refine catSum (v0 := .sl (ls.map eStrs) .no) hl hf (by simp [upd_at, entry_zero]) (by simp [upd_at]) (by simp [upd_at]) (by simp [upd_at]) (by simp [upd_at]) fun ts1 clk1 r0 r3 => ?_
 simp only [go_sem, Nat.reduceBEq, r0, r3]
 have fin : ∀ (L' : List AObj) (r' : AV) (o' : AObj), (L' = [o'] ∨ ∃ o1, L' = [o', o1]) → (0 < ls.flatten.length → L'.length = 2) → JoinSt B ls.flatten.length ls.flatten r' o' (L'.getD 1 .dead) → RV [] (some [r']) T (D ++ L') := by
   intro L' r' o' hL' hpos hst
   rcases hst with ⟨hz, hacc, u, rfl, _⟩ | ⟨h0, hacc, _⟩ | ⟨h0, hne, g, rfl, rfl⟩
   · rw [hacc] at hT
     exact ⟨_, rfl, rfl, rfl, hT _⟩
   · rw [hacc] at h0; simp at h0
   · obtain ⟨o1, rfl⟩ : ∃ o1, L' = [.blk g (strs ls.flatten) true true 0, o1] := by
       rcases hL' with rfl | h
       · have := hpos h0; simp at this
       · exact h
     have hb : blkAt (D ++ [.blk g (strs ls.flatten) true true 0, o1]) (B + 0) g = some (strs ls.flatten, true, true, 0) := by rw [loc_blk hB]; simp [blkAt]
     have hsl : (strs ls.flatten).length = ls.flatten.length := List.length_map _
     refine ⟨.sl (strs ls.flatten) .no, ?_, by simp [AV.ids, ids_strs], by simp [noneOf], hT _⟩
     simp only [oneOf, conv, rowOf, hb, Nat.zero_add, hsl, Nat.le_refl, if_true, List.drop_zero, Option.map_some]
     rw [List.take_of_length_le (by rw [hsl]; exact Nat.le_refl _)]
 refine CK_of_WC (wc185 (by omega) (fun hz => ?_) fun hpos g c => ?_)
 · simp only [go_sem, Nat.reduceBEq, r0, r3, List.length_map]
   refine catJoin (r := (.sl [] .nil, .dead)) (o0 := (.undef, .dead)) hB hl hf (.inl rfl) (fun h => by omega) (.inl ⟨hz, rfl, _, rfl, .inl rfl⟩) (by simp [upd_at]) (by simp [upd_at]) (by simp [upd_at]) (by simp [upd_at]) fun ts' clk' r' o' L' hL' hpos' hst' q6 => ?_
   simp only [go_sem, Nat.reduceBEq, q6]
   exact fin L' r' o' hL' hpos' hst'
 · have hlen : (D ++ [AObj.dead]).length = B + 1 := by simp [hB]
   simp only [go_sem, Nat.reduceBEq, r0, r3, List.length_map, hlen, List.append_assoc]
   refine catJoin (r := (.ob (B + 1) g 0 0, .dead)) (o0 := (.undef, .dead)) hB hl hf (.inr ⟨_, rfl⟩) (fun _ => rfl) (.inr (.inl ⟨hpos, rfl, g, rfl, rfl⟩)) (by simp [upd_at]) (by simp [upd_at]) (by simp [upd_at]) (by simp [upd_at]) fun ts' clk' r' o' L' hL' hpos' hst' q6 => ?_
   simp only [go_sem, Nat.reduceBEq, q6]
   exact fin L' r' o' hL' hpos' hst'
theorem setLoop {s : Sys} {fl : List (List Nat)} {B clk g0 g : Nat} {D : List AObj} {ts : Tmps} {ks : List Kf} {Q : Post} (hB : D.length = B) (hpl : s.preds.length ≤ 1000) (hfl : fl.length ≤ 2 ^ 20) (h2 : ts 2 = .ptr (B + 0) g0 0 0) (h6 : ts 6 = .mp (B + 1) g) (h11 : ts 11 = .sl (strs fl) .no) (h12 : ts 12 = .int .i64 (fl.length : Int)) (h13 : ts 13 = .int .i64 0)
   (hok : fl.Nodup → (∀ a ∈ fl, a ∈ s.preds.map (·.name)) → ∀ (ts' : Tmps) (clk' : Nat), ts' 6 = .mp (B + 1) g → K Gam B (.exit 0) ks ⟨ts', D ++ [.blk g0 [.agg [.sl (s.preds.map eFunc) .no, .sl (s.clauses.map eClause) .no]] false false 0, .map g (nameSet fl)], clk'⟩ Q)
   (hbad : ¬ (fl.Nodup ∧ ∀ a ∈ fl, a ∈ s.preds.map (·.name)) → ∀ (ts' : Tmps) (L : List AObj) (clk' : Nat), ts' 4 = .nilmap → ts' 5 = .bool false → K Gam B .ret ks ⟨ts', D ++ L, clk'⟩ Q) :
   K Gam B (.loop c89_0) ks ⟨ts, D ++ [.blk g0 [.agg [.sl (s.preds.map eFunc) .no, .sl (s.clauses.map eClause) .no]] false false 0, .map g (nameSet [])], clk⟩ Q := by
 refine K_loop (fun m q => ∃ (i : Nat), i ≤ fl.length ∧ m = fl.length - i ∧ (fl.take i).Nodup ∧ (∀ a ∈ fl.take i, a ∈ s.preds.map (·.name)) ∧ q.ts 2 = .ptr (B + 0) g0 0 0 ∧ q.ts 6 = .mp (B + 1) g ∧ q.ts 11 = .sl (strs fl) .no ∧ q.ts 12 = .int .i64 (fl.length : Int) ∧ q.ts 13 = .int .i64 (i : Int) ∧ q.h = D ++ [.blk g0 [.agg [.sl (s.preds.map eFunc) .no, .sl (s.clauses.map eClause) .no]] false false 0, .map g (nameSet (fl.take i))]) fl.length ⟨0, by omega, rfl, by simp, by simp, h2, h6, h11, h12, h13, rfl⟩ ?_
 clear h2 h6 h11 h12 h13
 rintro m ⟨ts, h, clk⟩ P ⟨i, hi, rfl, hnd, hin, q2, q6, q11, q12, q13, rfl⟩ hnx he hr
 dsimp only at q2 q6 q11 q12 q13
 by_cases hlt : i < fl.length
 · have f1 : decide ((i : Int) < (fl.length : Int)) = true := by rw [decide_eq_true_iff]; omega
   have f2 : IntKind.i64.wrap ((i : Int) + 1) = ((i + 1 : Nat) : Int) := wrap_i64 (by omega) (by omega)
   have hix : ∀ h, idxAV h 1 (.sl (strs fl) .no) (.int .i64 (i : Int)) = some (.iptr [.str fl[i]] 0, h) := fun h => idx_map hlt rfl rfl
   have htake : fl.take (i + 1) = fl.take i ++ [fl[i]] := List.take_succ_eq_append_getElem hlt
   have hsub : (fl.take (i + 1)).Sublist fl := List.take_sublist _ _
   have p1 := pure75 (ps := s.preds) (u := .no) hpl
   have hnl : (s.preds.map (·.name)).length ≤ 2 ^ 20 := by simp; omega
   generalize fl[i] = a at *
   have p2 := pure91 (l := s.preds.map (·.name)) (a := a) (u := .no) hnl
   by_cases ha : a ∈ fl.take i
   · simp only [go_sem, Nat.reduceBEq, Nat.reduceAdd, ↓reduceIte, c89_0, q2, q6, q11, q12, q13, hB, f1, hix, mapOf_mp, lk_set, ha, found_someF]
     refine hr _ (hbad (fun h => ?_) _ _ _ (by simp [upd_at]) (by simp [upd_at]))
     have := h.1.sublist hsub
     rw [htake, List.nodup_append] at this
     exact this.2.2 _ ha _ (by simp) rfl
   · cases hb : decide (a ∈ s.preds.map (·.name)) with
     | false =>
       rw [hb] at p2
       simp only [go_sem, Nat.reduceBEq, Nat.reduceAdd, ↓reduceIte, c89_0, q2, q6, q11, q12, q13, hB, f1, hix, mapOf_mp, lk_set, ha, found_noneF, CK_pure p1, CK_pure p2, Bool.not_false]
       refine hr _ (hbad (fun h => ?_) _ _ _ (by simp [upd_at]) (by simp [upd_at]))
       rw [decide_eq_false_iff_not] at hb
       exact hb (h.2 _ (hsub.mem (by rw [htake]; simp)))
     | true =>
       rw [hb] at p2
       rw [decide_eq_true_iff] at hb
       have hmu : ∀ L : List AObj, mapAt L 1 g = some (nameSet (fl.take i)) → muV (D ++ L) (.one .str) (.str a) (.bool true) (.mp (B + 1) g) = some (.undef, D ++ L.set 1 (.map g (nameSet (fl.take (i + 1))))) := fun L hL => by
         rw [htake]
         exact mu_loc (v := .bool true) hB hL rfl (putKey_set ha)
       simp only [go_sem, Nat.reduceBEq, Nat.reduceAdd, ↓reduceIte, c89_0, q2, q6, q11, q12, q13, hB, f1, hix, mapOf_mp, lk_set, ha, found_noneF, CK_pure p1, CK_pure p2, Bool.not_true, hmu, f2]
       refine hnx (fl.length - (i + 1)) _ (by omega) ⟨i + 1, hlt, rfl, ?_, fun b hb' => ?_, q2, q6, q11, q12, rfl, rfl⟩
       · rw [htake, List.nodup_append]
         refine ⟨hnd, by simp, fun x hx y hy => ?_⟩
         simp at hy
         subst hy
         exact fun e => ha (e ▸ hx)
       · rw [htake, List.mem_append, List.mem_singleton] at hb'
         rcases hb' with hb' | rfl
         · exact hin b hb'
         · exact hb
 · have f1 : decide ((i : Int) < (fl.length : Int)) = false := by rw [decide_eq_false_iff_not]; omega
   have hti : fl.take i = fl := List.take_of_length_le (by omega)
   rw [hti] at hnd hin
   simp only [go_sem, Nat.reduceBEq, Nat.reduceAdd, ↓reduceIte, c89_0, q2, q6, q11, q12, q13, f1]
   refine he _ _ ?_
   rw [hti]
   exact hok hnd hin _ _ (by simp [upd_at, q6])
theorem wc89 {s : Sys} {un und : List (List Nat)} {u : Tip} {h : List AObj} {clk : Nat} {Q : AV → List AObj → Nat → Prop} (hpl : s.preds.length ≤ 1000) (hl : (un ++ und).length ≤ 2 ^ 20) (hnd : (un ++ und).Nodup) (hin : ∀ a ∈ un ++ und, a ∈ s.preds.map (·.name)) (hQ : ∀ g o c, Q (.tup [.mp (h.length + 1) g, .bool true]) (h ++ [o, .map g (nameSet (un ++ und))]) c) : WC Gam 89 [eSys s, .sl [.sl (strs un) .no, .sl (strs und) .no] u] h clk Q := by
 have hp := pure138 (ls := [un, und]) (u := .no) (by simp) (by simpa using hl)
 have hfl : [un, und].flatten = un ++ und := by simp
 rw [hfl] at hp
 refine WC_grow rfl fn89 rfl rfl rfl (az := [eSys s, .sl [.sl (strs un) .no, .sl (strs und) .no] .no]) rfl (by simp [idsL, ids_sys, AV.ids, ids_strs]) fun D B R hB hBh hR => ?_
 have hsl : (strs (un ++ und)).length = (un ++ und).length := List.length_map _
 simp only [List.map_cons, List.map_nil, eStrs] at hp
 simp only [go_sem, Nat.reduceBEq, af89, hB, eSys, CK_pure hp, hsl]
 refine setLoop (fl := un ++ und) hB hpl hl (by simp [upd_at]) (by simp [upd_at]) (by simp [upd_at]) (by simp [upd_at]) (by simp [upd_at]) (fun _ _ ts' clk' r6 => ?_) (fun hc => absurd ⟨hnd, hin⟩ hc)
 simp only [go_sem, Nat.reduceBEq, r6]
 rw [RVG_some rfl]
 refine hR _ _ ⟨B + 1, by simp [oneOf, AV.cv, cvL, AV.ids, idsL], by omega⟩ fun c => ?_
 have := hQ
 rw [← hBh] at this
 exact this _ _ c
theorem pure74 {s : Sys} {x r : Tf} {k : Int} (hs : SysV s) (hx : TfOk x) (hr : TfOk r) (hk : x.kind = k) (h1 : r.pred = []) (h2 : r.into = []) (h3 : r.clause = 0) (h4 : r.atom = 0) (h5 : r.un = []) (h6 : r.und = []) (h7 : r.drops = []) : Pure Gam 74 [eSys s, eTf x, .int .i64 k, eTf r] (.bool true) := by
 have hp := pure31 hs
 rw [eSys] at hp
 refine Pure.of rfl fn74 rfl rfl rfl (az := [eSys s, eTf x, .int .i64 k, eTf r]) rfl (by simp [idsL, ids_sys, ids_tf hx, ids_tf hr, AV.ids]) fun D B clk T hB hT => ?_
 have hs0 : strs [] = [] := rfl
 simp only [go_sem, Nat.reduceBEq, Nat.reduceAdd, Nat.reduceLeDiff, Nat.reduceSub, reduceCtorEq, ↓reduceIte, af74, hB, eSys, eTf, hk, h1, h2, h3, h4, h5, h6, h7, hs0, decide_true, CK_pure hp, Int.reduceEq]
 rw [RV_bool]
 exact hT _
def keepC (un und : List (List Nat)) (c : Clause) : Option Bool :=
 if c.head.pred ∈ und ∧ (c.body.any fun a => decide (a.pred ∈ und)) = false then none
 else if c.head.pred ∈ un ++ und ∨ (c.body.any fun a => decide (a.pred ∈ und)) = true then some false
 else if (c.body.any fun a => decide (a.pred ∈ un)) = true then none else some true
def keptF (un und : List (List Nat)) : List Clause → Nat → List Nat → Option (List Nat)
 | [], _, out => some out
 | c :: cs, i, out => match keepC un und c with
   | none => none
   | some true => keptF un und cs (i + 1) (out ++ [i])
   | some false => keptF un und cs (i + 1) out
theorem keptLoop {cs : List Clause} {x : Tf} {B clk gx gR : Nat} {D : List AObj} {a0 a2 o3 o4 o5 o6 s0 : AObj} {ts : Tmps} {ks : List Kf} {Q : Post} (hB : D.length = B) (hcl : cs.length ≤ 2 ^ 18) (hbl : ∀ c ∈ cs, c.body.length ≤ 2 ^ 18) (hx : TfOk x) (h7 : ts 7 = .mp (B + 8) gR) (h9 : ts 9 = .fn 90 [.ptr (B + 1) gx 0 0]) (h10 : ts 10 = .fn 92 [.ptr (B + 1) gx 0 0]) (h11 : ts 11 = .sl [] .nil) (h38 : ts 38 = .sl (cs.map eClause) .no) (h39 : ts 39 = .int .i64 (cs.length : Int)) (h40 : ts 40 = .int .i64 0)
   (hok : ∀ out, keptF x.un x.und cs 0 [] = some out → ∀ (ts' : Tmps) (t : Tip) (L : List AObj) (clk' : Nat), ts' 11 = .sl (out.map nat) t → K Gam B (.exit 0) ks ⟨ts', D ++ L, clk'⟩ Q)
   (hbad : keptF x.un x.und cs 0 [] = none → ∀ (ts' : Tmps) (L : List AObj) (clk' : Nat), ts' 4 = .sl [] .nil → ts' 5 = .int .i64 8 → K Gam B .ret ks ⟨ts', D ++ L, clk'⟩ Q) :
   K Gam B (.loop c48_0) ks ⟨ts, D ++ [a0, .blk gx [eTf x] false false 0, a2, o3, o4, o5, o6, s0, .map gR (nameSet (x.un ++ x.und))], clk⟩ Q := by
 refine K_loop (fun m q => ∃ (i : Nat) (out : List Nat) (t : Tip) (o3 o4 o5 o6 : AObj), i ≤ cs.length ∧ m = cs.length - i ∧ out.length ≤ i ∧ keptF x.un x.und (cs.drop i) i out = keptF x.un x.und cs 0 [] ∧ q.ts 7 = .mp (B + 8) gR ∧ q.ts 9 = .fn 90 [.ptr (B + 1) gx 0 0] ∧ q.ts 10 = .fn 92 [.ptr (B + 1) gx 0 0] ∧ q.ts 11 = .sl (out.map nat) t ∧ q.ts 38 = .sl (cs.map eClause) .no ∧ q.ts 39 = .int .i64 (cs.length : Int) ∧ q.ts 40 = .int .i64 (i : Int) ∧ q.h = D ++ [a0, .blk gx [eTf x] false false 0, a2, o3, o4, o5, o6, s0, .map gR (nameSet (x.un ++ x.und))] ∧ TipK B 6 o6 t 1) cs.length ⟨0, [], .nil, o3, o4, o5, o6, by omega, rfl, by simp, by simp, h7, h9, h10, h11, h38, h39, h40, rfl, .inl rfl⟩ ?_
 clear h7 h9 h10 h11 h38 h39 h40
 rintro m ⟨ts, h, clk⟩ P ⟨i, out, t, o3, o4, o5, o6, hi, rfl, hout, hk, q7, q9, q10, q11, q38, q39, q40, rfl, ht⟩ hnx he hr
 dsimp only at q7 q9 q10 q11 q38 q39 q40
 by_cases hlt : i < cs.length
 · have f1 : decide ((i : Int) < (cs.length : Int)) = true := by rw [decide_eq_true_iff]; omega
   have f2 : IntKind.i64.wrap ((i : Int) + 1) = ((i + 1 : Nat) : Int) := wrap_i64 (by omega) (by omega)
   have hmem := List.getElem_mem hlt
   have hdr : cs.drop i = cs[i] :: cs.drop (i + 1) := List.drop_eq_getElem_cons hlt
   have hix := fun h => clause_idx (l := cs) (i := i) (h := h) (t := .no) (k := .i64) hlt
   have hbody := hbl _ hmem
   generalize cs[i] = c at hmem hdr hix hbody
   rw [hdr, keptF] at hk
   have oids : (AObj.blk gx [eTf x] false false 0).ids = [] := by simp [AObj.ids, idsL, ids_tf hx]
   have hh : ∀ a0 a2 o3 o4 o5 o6, Has [(B + 1, .blk gx [eTf x] false false 0)] (D ++ [a0, .blk gx [eTf x] false false 0, a2, o3, o4, o5, o6, s0, .map gR (nameSet (x.un ++ x.und))]) := fun _ _ _ _ _ _ => has_loc hB rfl
   have r1 := reads93 (enc := eApp) (xs := c.body) (t := .no) (P := fun a => decide (a.pred ∈ x.und)) (c := 90) (cap := [.ptr (B + 1) gx 0 0]) (fun _ => rfl) (fun _ _ => rfl) ids_app (by omega) (by simpa [idsL, AV.ids] using Cov.one (s := B + 1) oids) fun a _ => reads90 hx
   have r2 := reads93 (enc := eApp) (xs := c.body) (t := .no) (P := fun a => decide (a.pred ∈ x.un)) (c := 92) (cap := [.ptr (B + 1) gx 0 0]) (fun _ => rfl) (fun _ _ => rfl) ids_app (by omega) (by simpa [idsL, AV.ids] using Cov.one (s := B + 1) oids) fun a _ => reads92 hx
   have r3 := reads90 (s := B + 1) (g := gx) (x := x) (a := c.head) hx
   rw [eApp] at r3
   cases hw : (c.body.any fun a => decide (a.pred ∈ x.und)) with
   | true =>
     have hkc : keepC x.un x.und c = some false := by
       unfold keepC
       rw [hw]
       simp
     rw [hkc] at hk
     rw [hw] at r1
     cases hu : decide (c.head.pred ∈ x.und) with
     | true =>
       rw [hu] at r3
       have hin : c.head.pred ∈ x.un ++ x.und := by
         rw [decide_eq_true_iff] at hu
         exact List.mem_append_right _ hu
       simp only [go_sem, Nat.reduceBEq, Nat.reduceAdd, Nat.reduceLeDiff, Nat.reduceSub, reduceCtorEq, ↓reduceIte, c48_0, q7, q9, q10, q11, q38, q39, q40, hB, f1, hix, CK_reads r1 (hh _ _ _ _ _ _), CK_reads r3 (hh _ _ _ _ _ _), Bool.not_true, mapOf_mp, lk_set, hin, found_someF, f2]
       exact hnx (cs.length - (i + 1)) _ (by omega) ⟨i + 1, out, t, _, _, _, _, hlt, rfl, by omega, hk, q7, q9, q10, q11, q38, q39, rfl, rfl, ht⟩
     | false =>
       rw [hu] at r3
       by_cases hin : c.head.pred ∈ x.un ++ x.und
       · simp only [go_sem, Nat.reduceBEq, Nat.reduceAdd, Nat.reduceLeDiff, Nat.reduceSub, reduceCtorEq, ↓reduceIte, c48_0, q7, q9, q10, q11, q38, q39, q40, hB, f1, hix, CK_reads r1 (hh _ _ _ _ _ _), CK_reads r3 (hh _ _ _ _ _ _), Bool.not_true, mapOf_mp, lk_set, hin, found_someF, f2]
         exact hnx (cs.length - (i + 1)) _ (by omega) ⟨i + 1, out, t, _, _, _, _, hlt, rfl, by omega, hk, q7, q9, q10, q11, q38, q39, rfl, rfl, ht⟩
       · simp only [go_sem, Nat.reduceBEq, Nat.reduceAdd, Nat.reduceLeDiff, Nat.reduceSub, reduceCtorEq, ↓reduceIte, c48_0, q7, q9, q10, q11, q38, q39, q40, hB, f1, hix, CK_reads r1 (hh _ _ _ _ _ _), CK_reads r3 (hh _ _ _ _ _ _), Bool.not_true, mapOf_mp, lk_set, hin, found_noneF, f2]
         exact hnx (cs.length - (i + 1)) _ (by omega) ⟨i + 1, out, t, _, _, _, _, hlt, rfl, by omega, hk, q7, q9, q10, q11, q38, q39, rfl, rfl, ht⟩
   | false =>
     rw [hw] at r1
     cases hu : decide (c.head.pred ∈ x.und) with
     | true =>
       have hkc : keepC x.un x.und c = none := by
         unfold keepC
         rw [decide_eq_true_iff] at hu
         rw [if_pos ⟨hu, hw⟩]
       rw [hkc] at hk
       rw [hu] at r3
       simp only [go_sem, Nat.reduceBEq, Nat.reduceAdd, Nat.reduceLeDiff, Nat.reduceSub, reduceCtorEq, ↓reduceIte, c48_0, q7, q9, q10, q11, q38, q39, q40, hB, f1, hix, CK_reads r1 (hh _ _ _ _ _ _), CK_reads r3 (hh _ _ _ _ _ _), Bool.not_false]
       exact hr _ (hbad hk.symm _ _ _ (by simp [upd_at]) (by simp [upd_at]))
     | false =>
       rw [hu] at r3
       have hnu : ¬ c.head.pred ∈ x.und := by rwa [decide_eq_false_iff_not] at hu
       by_cases hin : c.head.pred ∈ x.un ++ x.und
       · have hkc : keepC x.un x.und c = some false := by
           unfold keepC
           rw [if_neg (fun h => hnu h.1), if_pos (.inl hin)]
         rw [hkc] at hk
         simp only [go_sem, Nat.reduceBEq, Nat.reduceAdd, Nat.reduceLeDiff, Nat.reduceSub, reduceCtorEq, ↓reduceIte, c48_0, q7, q9, q10, q11, q38, q39, q40, hB, f1, hix, CK_reads r1 (hh _ _ _ _ _ _), CK_reads r3 (hh _ _ _ _ _ _), Bool.not_false, mapOf_mp, lk_set, hin, found_someF, f2]
         exact hnx (cs.length - (i + 1)) _ (by omega) ⟨i + 1, out, t, _, _, _, _, hlt, rfl, by omega, hk, q7, q9, q10, q11, q38, q39, rfl, rfl, ht⟩
       · cases hn : (c.body.any fun a => decide (a.pred ∈ x.un)) with
         | true =>
           have hkc : keepC x.un x.und c = none := by
             unfold keepC
             rw [if_neg (fun h => hnu h.1), if_neg (fun h => h.elim hin (by rw [hw]; simp)), if_pos hn]
           rw [hkc] at hk
           rw [hn] at r2
           simp only [go_sem, Nat.reduceBEq, Nat.reduceAdd, Nat.reduceLeDiff, Nat.reduceSub, reduceCtorEq, ↓reduceIte, c48_0, q7, q9, q10, q11, q38, q39, q40, hB, f1, hix, CK_reads r1 (hh _ _ _ _ _ _), CK_reads r3 (hh _ _ _ _ _ _), Bool.not_false, mapOf_mp, lk_set, hin, found_noneF, CK_reads r2 (hh _ _ _ _ _ _)]
           exact hr _ (hbad hk.symm _ _ _ (by simp [upd_at]) (by simp [upd_at]))
         | false =>
           have hkc : keepC x.un x.und c = some true := by
             unfold keepC
             rw [if_neg (fun h => hnu h.1), if_neg (fun h => h.elim hin (by rw [hw]; simp)), if_neg (by rw [hn]; simp)]
           rw [hkc] at hk
           rw [hn] at r2
           simp only [go_sem, Nat.reduceBEq, Nat.reduceAdd, Nat.reduceLeDiff, Nat.reduceSub, reduceCtorEq, ↓reduceIte, c48_0, q7, q9, q10, q11, q38, q39, q40, hB, f1, hix, CK_reads r1 (hh _ _ _ _ _ _), CK_reads r3 (hh _ _ _ _ _ _), Bool.not_false, mapOf_mp, lk_set, hin, found_noneF, CK_reads r2 (hh _ _ _ _ _ _)]
           have e8 : out.map nat ++ [i].map nat = (out ++ [i]).map nat := by rw [List.map_append]
           rw [show [AV.int .i64 (i : Int)] = [i].map nat from rfl, append_loc hB rfl ht cells_nats cells_nats (by simp only [List.length_map, List.length_singleton]; omega), e8]
           simp only [go_sem, Nat.reduceBEq, Nat.reduceAdd, Nat.reduceLeDiff, Nat.reduceSub, reduceCtorEq, ↓reduceIte, q7, q9, q10, q11, q38, q39, q40, f2]
           exact hnx (cs.length - (i + 1)) _ (by omega) ⟨i + 1, out ++ [i], _, _, _, _, _, hlt, rfl, by simp; omega, hk, q7, q9, q10, rfl, q38, q39, rfl, rfl, .inr (.inr ⟨_, rfl, rfl⟩)⟩
 · have f1 : decide ((i : Int) < (cs.length : Int)) = false := by rw [decide_eq_false_iff_not]; omega
   have hdr : cs.drop i = [] := List.drop_of_length_le (by omega)
   rw [hdr, keptF] at hk
   simp only [go_sem, Nat.reduceBEq, Nat.reduceAdd, Nat.reduceLeDiff, Nat.reduceSub, reduceCtorEq, ↓reduceIte, c48_0, q7, q9, q10, q11, q38, q39, q40, f1]
   refine he _ _ ?_
   exact hok out hk.symm _ t _ _ (by simp [upd_at, q11])
theorem Pure.cv {f : Nat} {args asx' : List AV} {v : AV} {af : AFun} (hp : Pure Gam f asx' v) (hext : Gam.ext f = none) (hfn : Gam.fn f = some af) (hb : af.byref = []) (hobs : obsL args = []) (hobs' : obsL asx' = []) (hcv : cvL args = cvL asx') : Pure Gam f args v := by
 intro h clk
 obtain ⟨⟨k, hk⟩, hf⟩ := hp h clk
 refine ⟨⟨k, ?_⟩, ?_⟩
 · unfold callA callWith at hk ⊢
   simp only [hext, hfn, hb, passArgs_cv hobs, passArgs_cv hobs', lent_nil hobs, lent_nil hobs', hcv] at hk ⊢
   exact hk
 · unfold callFoot at hf ⊢
   simp only [hext, hfn, hb, passArgs_cv hobs, passArgs_cv hobs', hobs, hobs', hcv] at hf ⊢
   exact hf
theorem pure48 {s : Sys} {x : Tf} {out : List Nat} (hs : SysV s) (hx : TfOk x) (hk : x.kind = 2) (h1 : x.pred = []) (h2 : x.into = []) (h3 : x.clause = 0) (h4 : x.atom = 0) (h7 : x.drops = []) (hnd : (x.un ++ x.und).Nodup) (hin : ∀ a ∈ x.un ++ x.und, a ∈ s.preds.map (·.name)) (hl : (x.un ++ x.und).length ≤ 2 ^ 18) (hkept : keptF x.un x.und s.clauses 0 [] = some out) : Pure Gam 48 [eSys s, eTf x] (.tup [.sl (out.map nat) .no, .int .i64 0]) := by
 have hp := pure74 (r := { x with un := [], und := [] }) hs hx ⟨by simp, by simp, hx.drops⟩ hk h1 h2 h3 h4 rfl rfl h7
 have hpl : s.preds.length ≤ 5 := hs.preds.length_le
 have hbl : ∀ c ∈ s.clauses, c.body.length ≤ 2 ^ 18 := fun c hc => by have := (hs.clauses c hc).2.1; omega
 have hcl : s.clauses.length ≤ 2 ^ 18 := by have := hs.len; omega
 rw [eSys, eTf, eTf] at hp
 have h89 := fun u h clk Q => wc89 (s := s) (un := x.un) (und := x.und) (u := u) (h := h) (clk := clk) (Q := Q) (by omega) (by omega) hnd hin
 rw [eSys] at h89
 refine Pure.of rfl fn48 rfl rfl rfl (az := [eSys s, eTf x]) rfl (by simp [idsL, ids_sys, ids_tf hx]) fun D B clk T hB hT => ?_
 have hs0 : strs [] = [] := rfl
 simp only [hs0] at hp
 have hp := Pure.cv (args := [.agg [.sl (s.preds.map eFunc) .no, .sl (s.clauses.map eClause) .no], .agg [.int .i64 x.kind, .str x.pred, .str x.into, .int .i64 x.clause, .int .i64 x.atom, .sl (strs x.un) .no, .sl (strs x.und) .no, .sl x.drops .no], .int .i64 2, .agg [.int .i64 x.kind, .str x.pred, .str x.into, .int .i64 x.clause, .int .i64 x.atom, .sl [] .nil, .sl [] .nil, .sl x.drops .no]]) hp rfl fn74 rfl rfl rfl rfl
 simp only [go_sem, Nat.reduceBEq, Nat.reduceAdd, Nat.reduceLeDiff, Nat.reduceSub, reduceCtorEq, ↓reduceIte, af48, hB, eSys, eTf, getD_zero, CK_pure hp, Bool.not_true]
 refine CK_of_WC (h89 _ _ _ _ fun gR s0 c2 => ?_)
 have hlen7 : ∀ a0 a1 a2 a3 a4 a5 a6 : AObj, (D ++ [a0, a1, a2, a3, a4, a5, a6]).length = B + 7 := fun _ _ _ _ _ _ _ => by simp [hB]
 simp only [go_sem, Nat.reduceBEq, Nat.reduceAdd, Nat.reduceLeDiff, Nat.reduceSub, reduceCtorEq, ↓reduceIte, hB, hlen7, List.append_assoc, Bool.not_true, List.length_map]
 refine keptLoop (x := x) (cs := s.clauses) (gx := clk + 1) hB hcl hbl hx (by simp [upd_at]) (by simp [upd_at]) (by simp [upd_at]) (by simp [upd_at]) (by simp [upd_at]) (by simp [upd_at]) (by simp [upd_at]) (fun out' ho ts' t L clk' r11 => ?_) (fun hbad => by rw [hkept] at hbad; cases hbad)
 rw [hkept] at ho
 injection ho with ho
 subst ho
 simp only [go_sem, Nat.reduceBEq, Nat.reduceAdd, Nat.reduceLeDiff, Nat.reduceSub, reduceCtorEq, ↓reduceIte, r11]
 rw [RV_some rfl (by simp [oneOf, AV.cv, cvL, AV.ids, idsL, ids_nats])]
 exact hT _
theorem clone_ok {esz b : Nat} {xs : List AV} {t : Tip} (h1 : allCells esz xs = true) (h3 : idsL xs = []) (h2 : xs.length * (b + 1) ≤ 2 ^ 46) : cloneSem esz b (cvL [.sl xs t]) = some (.sl xs .no) := by
 simp only [cvL, AV.cv, cloneSem]
 rw [if_pos ⟨h1, by rw [h3]; rfl, h2⟩]
theorem pure77 {xs : List Nat} {t : Tip} (hl : xs.length ≤ 2 ^ 20) : Pure Gam 77 [.sl (xs.map nat) t] (.sl (xs.map nat) .no) := Pure.ext (sem := cloneSem 1 8) rfl rfl (clone_ok cells_nats ids_nats (by rw [List.length_map]; omega))
theorem pure78 {xs : List Var} {t : Tip} (hl : xs.length ≤ 2 ^ 20) : Pure Gam 78 [.sl (xs.map eVar) t] (.sl (xs.map eVar) .no) := Pure.ext (sem := cloneSem 2 24) rfl rfl (clone_ok cells_vars (idsL_map ids_var) (by rw [List.length_map]; omega))
theorem pure79 {xs : Term} {t : Tip} (hl : xs.length ≤ 2 ^ 20) : Pure Gam 79 [.sl (xs.map eNode) t] (.sl (xs.map eNode) .no) := Pure.ext (sem := cloneSem 5 56) rfl rfl (clone_ok cells_nodes (idsL_map ids_node) (by rw [List.length_map]; omega))
theorem pure133 {l : List Term} {u : Tip} (hl : l.length ≤ 2 ^ 20) (hts : ∀ t ∈ l, t.length ≤ 2 ^ 20) : Pure Gam 133 [.sl (l.map eTerm) u] (.sl (l.map eTerm) .no) := by
 refine Pure.of rfl fn133 rfl rfl rfl (az := [.sl (l.map eTerm) .no]) rfl (by simp [idsL, AV.ids, idsL_map ids_term]) fun D B clk T hB hT => ?_
 simp only [go_sem, Nat.reduceBEq, af133, List.length_map]
 refine K_loop (fun m q => ∃ (i : Nat) (t : Tip) (a o : AObj), i ≤ l.length ∧ m = l.length - i ∧ q.ts 3 = .sl ((l.take i).map eTerm) t ∧ q.ts 6 = .sl (l.map eTerm) .no ∧ q.ts 7 = .int .i64 (l.length : Int) ∧ q.ts 8 = .int .i64 (i : Int) ∧ q.h = D ++ [a, o] ∧ TipK B 1 o t 1) l.length ⟨0, .nil, _, _, by omega, rfl, rfl, rfl, rfl, rfl, rfl, .inl rfl⟩ ?_
 rintro m ⟨ts, h, clk⟩ P ⟨i, t, a, o, hi, rfl, q3, q6, q7, q8, rfl, ht⟩ hnx he hr
 dsimp only at q3 q6 q7 q8
 by_cases hlt : i < l.length
 · have f1 : decide ((i : Int) < (l.length : Int)) = true := by rw [decide_eq_true_iff]; omega
   have f2 : IntKind.i64.wrap ((i : Int) + 1) = ((i + 1 : Nat) : Int) := wrap_i64 (by omega) (by omega)
   have hix : ∀ h, idxAV h 1 (.sl (l.map eTerm) .no) (.int .i64 (i : Int)) = some (.iptr [.sl (l[i].map eNode) .no] 0, h) := fun h => idx_term hlt
   have e8 : (l.take i).map eTerm ++ [l[i]].map eTerm = (l.take (i + 1)).map eTerm := by rw [List.take_succ_eq_append_getElem hlt, List.map_append]
   have hpx := hts _ (List.getElem_mem hlt)
   generalize l[i] = x at *
   simp only [go_sem, Nat.reduceBEq, c133_0, q3, q6, q7, q8, hB, f1, hix, CK_pure (pure79 hpx)]
   rw [show [AV.sl (x.map eNode) .no] = [x].map eTerm from rfl, append_loc hB rfl ht cells_terms cells_terms (by simp only [List.length_map, List.length_singleton, List.length_take]; omega), e8]
   simp only [go_sem, Nat.reduceBEq, q3, q6, q7, q8, f2]
   exact hnx (l.length - (i + 1)) _ (by omega) ⟨i + 1, _, _, _, hlt, rfl, rfl, q6, q7, rfl, rfl, .inr (.inr ⟨_, rfl, rfl⟩)⟩
 · have f1 : decide ((i : Int) < (l.length : Int)) = false := by rw [decide_eq_false_iff_not]; omega
   have hti : l.take i = l := List.take_of_length_le (by omega)
   rw [hti] at q3
   simp only [go_sem, Nat.reduceBEq, c133_0, q3, q6, q7, q8, f1]
   refine he _ _ ?_
   simp only [go_sem, Nat.reduceBEq, q3]
   rw [RV_one rfl (by simp [AV.cv, AV.ids, idsL_map ids_term])]
   exact hT _
theorem pure80 {a : App} (hl : a.args.length ≤ 2 ^ 20) (hts : ∀ t ∈ a.args, t.length ≤ 2 ^ 20) : Pure Gam 80 [eApp a] (eApp a) := by
 have hp := pure133 (u := .no) hl hts
 refine Pure.of rfl fn80 rfl rfl rfl (az := [eApp a]) rfl (by simp [idsL, ids_app]) fun D B clk T hB hT => ?_
 simp only [go_sem, Nat.reduceBEq, Nat.reduceAdd, Nat.reduceLeDiff, Nat.reduceSub, reduceCtorEq, ↓reduceIte, af80, hB, eApp, K_draw, CK_pure hp, res_cell, resC_ptr, rconsO_some]
 refine ⟨by simp [drawOk, apart, disjoint, callAt, footAt, AOp.isCall, hB], ?_⟩
 rw [RV_one rfl (by simp [AV.cv, cvL, AV.ids, idsL, idsL_map ids_term])]
 exact hT _
theorem pure39 {c : Clause} (hb : c.body.length ≤ 2 ^ 20) (hba : ∀ a ∈ c.body, a.args.length ≤ 2 ^ 20 ∧ ∀ t ∈ a.args, t.length ≤ 2 ^ 20) (hh : c.head.args.length ≤ 2 ^ 20 ∧ ∀ t ∈ c.head.args, t.length ≤ 2 ^ 20) (hv : c.vars.length ≤ 2 ^ 20) (hg : c.guard.length ≤ 2 ^ 20) : Pure Gam 39 [eClause c] (eClause c) := by
 have hp := pure80 hh.1 hh.2
 rw [eApp] at hp
 refine Pure.of rfl fn39 rfl rfl rfl (az := [eClause c]) rfl (by simp [idsL, ids_clause]) fun D B clk T hB hT => ?_
 simp only [go_sem, Nat.reduceBEq, Nat.reduceAdd, Nat.reduceLeDiff, Nat.reduceSub, reduceCtorEq, ↓reduceIte, af39, hB, eClause, eTerm, K_draw, CK_pure (pure78 hv), CK_pure (pure79 hg), CK_pure hp, List.length_map]
 refine ⟨by simp [drawOk, apart, disjoint, callAt, footAt, AOp.isCall, hB, AV.ids, idsL, idsL_map ids_var, idsL_map ids_node, idsL_map ids_term], ?_⟩
 refine K_loop (fun m q => ∃ (i g1 g2 : Nat) (t : Tip) (a o3 o4 o5 : AObj), i ≤ c.body.length ∧ m = c.body.length - i ∧ q.ts 2 = .ptr (B + 1) g1 0 0 ∧ q.ts 3 = .ptr (B + 2) g2 0 0 ∧ q.ts 17 = .sl (c.body.map eApp) .no ∧ q.ts 18 = .int .i64 (c.body.length : Int) ∧ q.ts 19 = .int .i64 (i : Int) ∧ q.h = D ++ [a, .blk g1 [.agg [.sl [] .nil, .sl [] .nil, .sl [] .nil, .str [], .sl [] .nil]] false false 0, .blk g2 [.agg [.sl (c.vars.map eVar) .no, .sl ((c.body.take i).map eApp) t, .sl (c.guard.map eNode) .no, .str c.head.pred, .sl (c.head.args.map eTerm) .no]] false false 0, o3, o4, o5] ∧ TipK B 5 o5 t 2) c.body.length ⟨0, _, _, .nil, _, _, _, _, by omega, rfl, rfl, rfl, rfl, rfl, rfl, rfl, .inl rfl⟩ ?_
 rintro m ⟨ts, h, clk⟩ P ⟨i, g1, g2, t, a, o3, o4, o5, hi, rfl, q2, q3, q17, q18, q19, rfl, ht⟩ hnx he hr
 dsimp only at q2 q3 q17 q18 q19
 by_cases hlt : i < c.body.length
 · have f1 : decide ((i : Int) < (c.body.length : Int)) = true := by rw [decide_eq_true_iff]; omega
   have f2 : IntKind.i64.wrap ((i : Int) + 1) = ((i + 1 : Nat) : Int) := wrap_i64 (by omega) (by omega)
   have hix : ∀ h, idxAV h 2 (.sl (c.body.map eApp) .no) (.int .i64 (i : Int)) = some (.iptr [.str c.body[i].pred, .sl (c.body[i].args.map eTerm) .no] 0, h) := fun h => idx_map hlt rfl rfl
   have e8 : (c.body.take i).map eApp ++ [c.body[i]].map eApp = (c.body.take (i + 1)).map eApp := by rw [List.take_succ_eq_append_getElem hlt, List.map_append]
   have hpa := pure80 (a := c.body[i]) (hba _ (List.getElem_mem hlt)).1 (hba _ (List.getElem_mem hlt)).2
   rw [eApp] at hpa
   generalize c.body[i] = x at *
   simp only [go_sem, Nat.reduceBEq, Nat.reduceAdd, Nat.reduceLeDiff, Nat.reduceSub, reduceCtorEq, ↓reduceIte, c39_0, q2, q3, q17, q18, q19, hB, K_draw, f1, hix, CK_pure hpa]
   rw [show [AV.agg [.str x.pred, .sl (x.args.map eTerm) .no]] = [x].map eApp from rfl, append_loc hB rfl ht cells_apps cells_apps (by simp only [List.length_map, List.length_singleton, List.length_take]; omega), e8]
   simp only [go_sem, Nat.reduceBEq, Nat.reduceAdd, Nat.reduceLeDiff, Nat.reduceSub, reduceCtorEq, ↓reduceIte, q2, q3, q17, q18, q19, hB, f2]
   refine ⟨by simp [drawOk, apart, disjoint, callAt, footAt, AOp.isCall, hB, AV.ids, idsL, idsL_map ids_term], ?_⟩
   exact hnx (c.body.length - (i + 1)) _ (by omega) ⟨i + 1, g1, g2, _, _, _, _, _, hlt, rfl, q2, q3, q17, q18, rfl, rfl, .inr (.inr ⟨_, rfl, rfl⟩)⟩
 · have f1 : decide ((i : Int) < (c.body.length : Int)) = false := by rw [decide_eq_false_iff_not]; omega
   have hti : c.body.take i = c.body := List.take_of_length_le (by omega)
   rw [hti]
   simp only [go_sem, Nat.reduceBEq, Nat.reduceAdd, Nat.reduceLeDiff, Nat.reduceSub, reduceCtorEq, ↓reduceIte, c39_0, q2, q3, q17, q18, q19, f1]
   refine he _ _ ?_
   simp only [go_sem, Nat.reduceBEq, Nat.reduceAdd, Nat.reduceLeDiff, Nat.reduceSub, reduceCtorEq, ↓reduceIte, q2, q3, hB, res_cell, resC_ptr, rconsO_some]
   rw [RV_one rfl (by simp [AV.cv, cvL, AV.ids, idsL, idsL_map ids_var, idsL_map ids_node, idsL_map ids_term, idsL_map ids_app])]
   exact hT _
theorem pure38 {ps : List Func} {u : Tip} (hl : ps.length ≤ 1000) (hpa : ∀ f ∈ ps, f.args.length ≤ 2 ^ 20) : Pure Gam 38 [.sl (ps.map eFunc) u] (.sl (ps.map eFunc) .no) := by
 refine Pure.of rfl fn38 rfl rfl rfl (az := [.sl (ps.map eFunc) .no]) rfl (by simp [idsL, AV.ids, idsL_map ids_func]) fun D B clk T hB hT => ?_
 simp only [go_sem, Nat.reduceBEq, Nat.reduceAdd, Nat.reduceLeDiff, Nat.reduceSub, reduceCtorEq, ↓reduceIte, af38, List.length_map]
 refine K_loop (fun m q => ∃ (i : Nat) (t : Tip) (a b o : AObj), i ≤ ps.length ∧ m = ps.length - i ∧ q.ts 3 = .sl ((ps.take i).map eFunc) t ∧ q.ts 6 = .sl (ps.map eFunc) .no ∧ q.ts 7 = .int .i64 (ps.length : Int) ∧ q.ts 8 = .int .i64 (i : Int) ∧ q.h = D ++ [a, b, o] ∧ TipK B 2 o t 3) ps.length ⟨0, .nil, _, _, _, by omega, rfl, rfl, rfl, rfl, rfl, rfl, .inl rfl⟩ ?_
 rintro m ⟨ts, h, clk⟩ P ⟨i, t, a, b, o, hi, rfl, q3, q6, q7, q8, rfl, ht⟩ hnx he hr
 dsimp only at q3 q6 q7 q8
 by_cases hlt : i < ps.length
 · have f1 : decide ((i : Int) < (ps.length : Int)) = true := by rw [decide_eq_true_iff]; omega
   have f2 : IntKind.i64.wrap ((i : Int) + 1) = ((i + 1 : Nat) : Int) := wrap_i64 (by omega) (by omega)
   have hix := fun h => func_idx (l := ps) (i := i) (h := h) (t := .no) (k := .i64) hlt
   have e8 : (ps.take i).map eFunc ++ [ps[i]].map eFunc = (ps.take (i + 1)).map eFunc := by rw [List.take_succ_eq_append_getElem hlt, List.map_append]
   have hpf := hpa _ (List.getElem_mem hlt)
   generalize ps[i] = f at *
   simp only [go_sem, Nat.reduceBEq, Nat.reduceAdd, Nat.reduceLeDiff, Nat.reduceSub, reduceCtorEq, ↓reduceIte, c38_0, q3, q6, q7, q8, hB, f1, hix, CK_pure (pure77 hpf)]
   rw [show [AV.agg [.str f.name, .sl (f.args.map nat) .no, .int .i64 (f.result : Int)]] = [f].map eFunc from rfl, append_loc hB rfl ht cells_funcs cells_funcs (by simp only [List.length_map, List.length_singleton, List.length_take]; omega), e8]
   simp only [go_sem, Nat.reduceBEq, Nat.reduceAdd, Nat.reduceLeDiff, Nat.reduceSub, reduceCtorEq, ↓reduceIte, q3, q6, q7, q8, f2]
   exact hnx (ps.length - (i + 1)) _ (by omega) ⟨i + 1, _, _, _, _, hlt, rfl, rfl, q6, q7, rfl, rfl, .inr (.inr ⟨_, rfl, rfl⟩)⟩
 · have f1 : decide ((i : Int) < (ps.length : Int)) = false := by rw [decide_eq_false_iff_not]; omega
   have hti : ps.take i = ps := List.take_of_length_le (by omega)
   rw [hti] at q3
   simp only [go_sem, Nat.reduceBEq, Nat.reduceAdd, Nat.reduceLeDiff, Nat.reduceSub, reduceCtorEq, ↓reduceIte, c38_0, q3, q6, q7, q8, f1]
   refine he _ _ ?_
   simp only [go_sem, Nat.reduceBEq, Nat.reduceAdd, Nat.reduceLeDiff, Nat.reduceSub, reduceCtorEq, ↓reduceIte, q3]
   rw [RV_one rfl (by simp [AV.cv, AV.ids, idsL_map ids_func])]
   exact hT _
end Go.Proofs.YtbeooboebfbchaaGreatDoor.Am
