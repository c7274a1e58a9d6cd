/- Walking: terms and formulas are generated (3). Walking: terms and formulas are generated (4). Walking: terms and formulas are generated (5). Walking: guards and arguments. Walking: atoms and clauses are generated. -/
import Derived.Test.YtbeooboebfbchaaGreatDoorM32
set_option linter.unusedVariables false
set_option linter.unusedSimpArgs false
namespace Go.Proofs.YtbeooboebfbchaaGreatDoor.Am
open Go
set_option maxRecDepth 100000
section
variable {l : List Int} {V : List Var}
theorem forest_same {s d : Nat} : ∀ {az : List Term}, (∀ t ∈ az, WF V [s] d t) → WF V (List.replicate az.length s) d az.flatten
 | [], _ => .nil
 | t :: az, h => by
   have := (h t List.mem_cons_self).append (forest_same (az := az) fun q hq => h q (List.mem_cons_of_mem _ hq))
   simpa [List.replicate_succ] using this
theorem flat_len {m : Nat} : ∀ {az : List Term}, (∀ t ∈ az, t.length ≤ m) → az.flatten.length ≤ az.length * m
 | [], _ => by simp
 | t :: az, h => by
   have h1 := h t List.mem_cons_self
   have h2 := flat_len (az := az) fun q hq => h q (List.mem_cons_of_mem _ hq)
   simp only [List.flatten_cons, List.length_append, List.length_cons, Nat.add_mul, Nat.one_mul]
   omega
theorem formLoop {e B p g i clk : Nat} {D : List AObj} {ts : Tmps} {a b c d x : AObj} {ks : List Kf} {Q : Post} {n : Nat} (he : e ≤ 3) (hn : n ≤ 3) (hF : FormOk l V e) (hB : D.length = B) (hs : p < B) (hD : D[p]? = some (chObj g l i)) (hi : i ≤ l.length)
   (g0 : ts 0 = .ptr p g 0 0) (g1 : ts 1 = nat (e + 1)) (g2 : ts 2 = .sl (V.map eVar) .no) (g7 : ts 7 = .sl [] .nil) (g8 : ts 8 = .int .i64 (n : Int))
   (hQ : ∀ (acc : List Term) (t : Tip) (ts' : Tmps) (D' : List AObj) (i' : Nat) (a b c d x : AObj) (clk' : Nat), acc.length ≤ 3 → (∀ t ∈ acc, GT V 1 (e + 4) (11 * 6 ^ e) t) → D'.length = B → D'[p]? = some (chObj g l i') → i' ≤ l.length → ts' 0 = .ptr p g 0 0 → ts' 7 = .sl (acc.map eTerm) t → K Gam B (.exit 1) ks ⟨ts', D' ++ [a, b, c, d, x], clk'⟩ Q) :
   K Gam B (.loop c145_0) ks ⟨ts, D ++ [a, b, c, d, x], clk⟩ Q := by
 refine K_loop (fun m q => ∃ (n : Nat) (acc : List Term) (t : Tip) (D : List AObj) (i : Nat) (a b c d x : AObj), m = n ∧ acc.length + n ≤ 3 ∧ (∀ t ∈ acc, GT V 1 (e + 4) (11 * 6 ^ e) t) ∧ D.length = B ∧ D[p]? = some (chObj g l i) ∧ i ≤ l.length ∧ q.ts 0 = .ptr p g 0 0 ∧ q.ts 1 = nat (e + 1) ∧ q.ts 2 = .sl (V.map eVar) .no ∧ q.ts 7 = .sl (acc.map eTerm) t ∧ q.ts 8 = .int .i64 (n : Int) ∧ q.h = D ++ [a, b, c, d, x] ∧ TipK B 2 c t 1) n ?_ ?_
 · exact ⟨n, [], .nil, D, i, _, _, _, _, _, rfl, by simpa using hn, by simp, hB, hD, hi, g0, g1, g2, g7, g8, rfl, .inl rfl⟩
 clear g0 g1 g2 g7 g8 hB hD hi
 rintro m ⟨ts, h, clk⟩ P ⟨n, acc, t, D, i, a, b, c, d, x, rfl, hlen, hacc, hB, hD, hi, g0, g1, g2, g7, g8, rfl, ht⟩ hnx hex hr
 dsimp only at g0 g1 g2 g7 g8
 have h6 : 6 ^ e ≤ 6 ^ 4 := Nat.pow_le_pow_right (by omega) (by omega)
 have em := minus_one (e := e) (by omega)
 simp only [go_sem, Nat.reduceBEq, g0, g1, g2, g7, g8, c145_0]
 refine BK_of (fun hb => ?_) (fun hb => ?_)
 · have hpos : 0 < m := by simp at hb; omega
   obtain ⟨n', rfl⟩ : ∃ n', m = n' + 1 := ⟨m - 1, by omega⟩
   have en : IntKind.i64.wrap (((n' + 1 : Nat) : Int) - 1) = (n' : Int) := minus_one (by omega)
   simp only [go_sem, Nat.reduceBEq, g0, g1, g2, g7, g8, nat, em]
   refine CK_gen hF hB hs hD hi ?_
   rintro v D1 i1 ⟨t1, rfl, ht1⟩ hB1 hD1 hi1
   simp only [go_sem, Nat.reduceBEq, g0, g1, g2, g7, g8, cells_sl]
   rw [show [eTerm t1] = [t1].map eTerm from rfl, append_loc hB1 rfl ht cells_terms cells_terms (by simp only [List.length_map, List.length_singleton]; omega)]
   simp only [go_sem, Nat.reduceBEq, g0, g1, g2, g7, g8, en]
   refine hnx n' _ (by omega) ⟨n', acc ++ [t1], _, D1, i1, _, _, _, _, _, rfl, by simp; omega, ?_, hB1, hD1, hi1, g0, g1, g2, ?_, rfl, rfl, .inr (.inr ⟨_, rfl, rfl⟩)⟩
   · intro t' ht'
     rw [List.mem_append, List.mem_singleton] at ht'
     rcases ht' with ht' | rfl
     · exact hacc t' ht'
     · exact ht1
   · simp only [upd_at, Nat.reduceBEq, cond_true, cond_false, List.map_append, List.map_cons, List.map_nil]
 · simp only [go_sem, Nat.reduceBEq, ]
   refine hex _ _ ?_
   exact hQ acc t _ D i _ _ _ _ _ _ (by omega) hacc hB hD hi (by simp [upd_at, g0]) (by simp [upd_at, g7])
theorem gen145_zero (hl : ChOk l) (hV : V.length ≤ 400) : FormOk l V 0 := by
 have hA := gen189 (u := .no) hl hV (Nat.le_refl 3) (Nat.le_refl 5) (by omega) fun s h1 h2 => gen186_leaf (s := s) hl hV (by omega) h2
 refine GenOk.of rfl fn145 rfl rfl rfl (az := [nat 0, .sl (V.map eVar) .no]) rfl (by simp [idsL, ids_nat, ids_vars]) fun D B p g i clk T hB hs hD hi hR => ?_
 simp only [go_sem, Nat.reduceBEq, af145, hB, nat, Int.reduceLE, decide_true]
 refine CK_gen hA hB hs hD hi ?_
 rintro v D1 i1 ⟨t1, rfl, ht1⟩ hB1 hD1 hi1
 simp only [go_sem, Nat.reduceBEq, ]
 rw [RV_eTerm]
 exact hR _ _ i1 (by rw [out_get hB1 hs]; exact hD1) hi1 ⟨_, rfl, ht1.up (by omega) (by omega)⟩
theorem gen145 {e : Nat} (hl : ChOk l) (hV : V.length ≤ 400) (he : e ≤ 3) (hF : FormOk l V e) (hT : TermOk l V e) : FormOk l V (e + 1) := by
 have hA0 := gen189 (u := .no) hl hV (Nat.le_refl 3) (Nat.le_refl 5) (by omega) fun s h1 h2 => gen186_leaf (s := s) hl hV (by omega) h2
 have h6 : 6 ^ e ≤ 6 ^ 4 := Nat.pow_le_pow_right (by omega) (by omega)
 have h6' : 1 ≤ 6 ^ e := Nat.pos_of_ne_zero (by simp)
 have hA := gen189 (d := e) (u := .no) (k := e + 4) (m := 5 * 6 ^ e) hl hV (by omega) (by omega) (by omega) fun s h1 h2 => by
   have := hT s (by omega) h2
   unfold TB at this
   rw [if_neg (by omega)] at this
   exact this
 have hI := gen190 he hF hT
 have e6 : 6 ^ (e + 1) = 6 * 6 ^ e := by rw [Nat.pow_succ, Nat.mul_comm]
 refine GenOk.of rfl fn145 rfl rfl rfl (az := [nat (e + 1), .sl (V.map eVar) .no]) rfl (by simp [idsL, ids_nat, ids_vars]) fun D B p g i clk T hB hs hD hi hR => ?_
 have em := minus_one (e := e) (by omega)
 have e0 : decide (((e + 1 : Nat) : Int) ≤ 0) = false := by rw [decide_eq_false_iff_not]; omega
 simp only [go_sem, Nat.reduceBEq, af145, hB, nat, e0]
 refine CK_gen gen52 hB hs hD hi ?_
 rintro v D1 i1 ⟨b, rfl⟩ hB1 hD1 hi1
 simp only [go_sem, Nat.reduceBEq, ]
 refine BK_of (fun hc => ?_) (fun hc => ?_)
 · simp only [go_sem, Nat.reduceBEq, ]
   refine CK_gen hA0 hB1 hs hD1 hi1 ?_
   rintro v D2 i2 ⟨t1, rfl, ht1⟩ hB2 hD2 hi2
   simp only [go_sem, Nat.reduceBEq, ]
   rw [RV_eTerm]
   exact hR _ _ i2 (by rw [out_get hB2 hs]; exact hD2) hi2 ⟨_, rfl, ht1.up (by omega) (by omega)⟩
 clear hD hi hc
 simp only [go_sem, Nat.reduceBEq, ]
 refine CK_gen (gen30 hl (by decide) (by decide)) hB1 hs hD1 hi1 ?_
 rintro v D2 i2 ⟨r, rfl, hr1, hr2⟩ hB2 hD2 hi2
 clear hD1 hi1 hB1
 obtain ⟨q, rfl⟩ : ∃ k : Nat, r = k := ⟨r.toNat, by omega⟩
 have hq : (q = 0 ∨ q = 1) ∨ (q = 2 ∨ q = 3 ∨ q = 4 ∨ q = 5) ∨ q = 6 ∨ q = 7 ∨ q = 8 ∨ 9 ≤ q := by omega
 rcases hq with hq | hq | rfl | rfl | rfl | hq
 · -- not
   rcases hq with rfl | rfl
   all_goals
     simp only [go_sem, Nat.reduceBEq, Int.reduceEq, decide_true, decide_false, em]
     refine CK_gen hF hB2 hs hD2 hi2 ?_
     rintro v D3 i3 ⟨t1, rfl, ht1⟩ hB3 hD3 hi3
     have l1 := ht1.2.1
     simp only [go_sem, Nat.reduceBEq, cells_sl]
     rw [CK_pure (op1 (o := 6) (i := 6) rfl (by omega))]
     simp only [go_sem, Nat.reduceBEq, ]
     rw [RV_eTerm]
     exact hR _ _ i3 (by rw [out_get hB3 hs]; exact hD3) hi3 ⟨_, rfl, (GT.op1 ht1 .not (by omega) (by omega)).up (by omega) (by omega)⟩
 · -- and, or
   rcases hq with rfl | rfl | rfl | rfl
   all_goals
     simp only [go_sem, Nat.reduceBEq, Int.reduceEq, decide_true, decide_false, em]
     refine CK_gen (gen30 hl (by decide) (by decide)) hB2 hs hD2 hi2 ?_
     rintro v D3 i3 ⟨r3, rfl, hr3, hr4⟩ hB3 hD3 hi3
     obtain ⟨n, rfl⟩ : ∃ k : Nat, r3 = k := ⟨r3.toNat, by omega⟩
     simp only [go_sem, Nat.reduceBEq, ]
     refine formLoop (n := n) (i := i3) he (by omega) hF hB3 hs hD3 hi3 rfl rfl rfl rfl rfl ?_
     intro acc t ts' D4 i4 a1 a2 a3 a4 a5 clk' hlen hacc hB4 hD4 hi4 g0 g7
     simp only [go_sem, Nat.reduceBEq, g0, g7]
     refine CK_gen (gen30 hl (by decide) (by decide)) hB4 hs hD4 hi4 ?_
     rintro v D5 i5 ⟨r5, rfl, hr5, hr6⟩ hB5 hD5 hi5
     obtain ⟨z, rfl⟩ : ∃ k : Nat, r5 = k := ⟨r5.toNat, by omega⟩
     have e7 : IntKind.i64.wrap (7 + (z : Int)) = ((7 + z : Nat) : Int) := by rw [wrap_i64 (by omega) (by omega)]; omega
     have hfl := flat_len (m := 11 * 6 ^ e) (az := acc) fun t ht => (hacc t ht).2.1
     have hfl2 : acc.length * (11 * 6 ^ e) ≤ 3 * (11 * 6 ^ e) := Nat.mul_le_mul_right _ hlen
     simp only [go_sem, Nat.reduceBEq, g0, g7, e7]
     rw [CK_pure (opn (o := 7 + z) (l := acc) rfl (by omega) (by omega))]
     simp only [go_sem, Nat.reduceBEq, ]
     rw [RV_eTerm]
     refine hR _ _ i5 (by rw [out_get hB5 hs]; exact hD5) hi5 ⟨_, rfl, ⟨(WF.one (forest_same fun t ht => (hacc t ht).1) (.andor (by omega)) (by simp [bare])).up (by omega), by rw [List.length_cons]; omega, by omega, by omega⟩⟩
 · -- implies
   simp only [go_sem, Nat.reduceBEq, Int.reduceEq, decide_true, decide_false, em]
   refine CK_gen hF hB2 hs hD2 hi2 ?_
   rintro v D3 i3 ⟨t1, rfl, ht1⟩ hB3 hD3 hi3
   simp only [go_sem, Nat.reduceBEq, em]
   refine CK_gen hF hB3 hs hD3 hi3 ?_
   rintro v D4 i4 ⟨t2, rfl, ht2⟩ hB4 hD4 hi4
   have l1 := ht1.2.1
   have l2 := ht2.2.1
   simp only [go_sem, Nat.reduceBEq, cells_sl]
   rw [CK_pure (op2 (o := 9) (i := 9) rfl (by omega) (by omega))]
   simp only [go_sem, Nat.reduceBEq, ]
   rw [RV_eTerm]
   exact hR _ _ i4 (by rw [out_get hB4 hs]; exact hD4) hi4 ⟨_, rfl, (GT.op2 ht1 ht2 .imp (by omega) (by omega)).up (by omega) (by omega)⟩
 · -- ite
   simp only [go_sem, Nat.reduceBEq, Int.reduceEq, decide_true, decide_false, em]
   refine CK_gen (hI 1 (by omega) (by omega)) hB2 hs hD2 hi2 ?_
   rintro v D3 i3 ⟨t1, rfl, ht1⟩ hB3 hD3 hi3
   simp only [go_sem, Nat.reduceBEq, ]
   rw [RV_eTerm]
   exact hR _ _ i3 (by rw [out_get hB3 hs]; exact hD3) hi3 ⟨_, rfl, ht1⟩
 · -- eq
   simp only [go_sem, Nat.reduceBEq, Int.reduceEq, decide_true, decide_false, em]
   refine CK_gen hF hB2 hs hD2 hi2 ?_
   rintro v D3 i3 ⟨t1, rfl, ht1⟩ hB3 hD3 hi3
   simp only [go_sem, Nat.reduceBEq, em]
   refine CK_gen hF hB3 hs hD3 hi3 ?_
   rintro v D4 i4 ⟨t2, rfl, ht2⟩ hB4 hD4 hi4
   have l1 := ht1.2.1
   have l2 := ht2.2.1
   simp only [go_sem, Nat.reduceBEq, cells_sl]
   rw [CK_pure (op2 (o := 11) (i := 11) rfl (by omega) (by omega))]
   simp only [go_sem, Nat.reduceBEq, ]
   rw [RV_eTerm]
   exact hR _ _ i4 (by rw [out_get hB4 hs]; exact hD4) hi4 ⟨_, rfl, (GT.op2 ht1 ht2 (.eq (by omega) (by omega)) (by omega) (by omega)).up (by omega) (by omega)⟩
 · -- atom
   have d0 : ∀ k : Int, 0 ≤ k → k < 9 → decide ((q : Int) = k) = false := fun k h1 h2 => by rw [decide_eq_false_iff_not]; omega
   simp only [go_sem, Nat.reduceBEq, d0 0 (by decide) (by decide), d0 1 (by decide) (by decide), d0 2 (by decide) (by decide), d0 3 (by decide) (by decide), d0 4 (by decide) (by decide), d0 5 (by decide) (by decide), d0 6 (by decide) (by decide), d0 7 (by decide) (by decide), d0 8 (by decide) (by decide), em]
   refine CK_gen hA hB2 hs hD2 hi2 ?_
   rintro v D3 i3 ⟨t1, rfl, ht1⟩ hB3 hD3 hi3
   simp only [go_sem, Nat.reduceBEq, ]
   rw [RV_eTerm]
   exact hR _ _ i3 (by rw [out_get hB3 hs]; exact hD3) hi3 ⟨_, rfl, ht1.up (by omega) (by omega)⟩
end
section
variable {l : List Int} {V : List Var}
def NumS (s : Nat) (a : List Nat) : Prop := (s = 2 ∧ IntS a) ∨ (s = 3 ∧ RatS a)
def NumOk (l : List Int) : Prop := ∀ s, s = 2 ∨ s = 3 → GenOk l 240 [nat s] fun v => ∃ a, v = .str a ∧ NumS s a
theorem GT.num {s : Nat} {a : List Nat} (h : NumS s a) : GT V s 1 1 [⟨3, s, [], a, 0⟩] := by
 rcases h with ⟨rfl, h⟩ | ⟨rfl, h⟩
 · exact GT.leaf (.int h) rfl (by omega) (by omega)
 · exact GT.leaf (.real h) rfl (by omega) (by omega)
theorem arLoop {e B p g i s clk : Nat} {D : List AObj} {ts : Tmps} {a b c d x y z : AObj} {ks : List Kf} {Q : Post} {n : Nat} {t0 : Term} (he : e ≤ 3) (hn : n ≤ 2) (h1 : 1 ≤ s) (h2 : s ≤ 4) (hT : TermOk l V e) (hB : D.length = B) (hs : p < B) (hD : D[p]? = some (chObj g l i)) (hi : i ≤ l.length)
   (g0 : ts 0 = .ptr p g 0 0) (gs : ts 1 = nat s) (g1 : ts 2 = nat (e + 1)) (g2 : ts 3 = .sl (V.map eVar) .no) (g7 : ts 10 = .sl [eTerm t0] .full) (g8 : ts 11 = .int .i64 (n : Int)) (ht0 : GT V s (e + 4) (TB s e) t0)
   (hQ : ∀ (acc : List Term) (t : Tip) (ts' : Tmps) (D' : List AObj) (i' : Nat) (a b c d x y z : AObj) (clk' : Nat), 1 ≤ acc.length → acc.length ≤ 3 → (∀ t ∈ acc, GT V s (e + 4) (TB s e) t) → D'.length = B → D'[p]? = some (chObj g l i') → i' ≤ l.length → ts' 0 = .ptr p g 0 0 → ts' 10 = .sl (acc.map eTerm) t → K Gam B (.exit 1) ks ⟨ts', D' ++ [a, b, c, d, x, y, z], clk'⟩ Q) :
   K Gam B (.loop c221_0) ks ⟨ts, D ++ [a, b, c, d, x, y, z], clk⟩ Q := by
 refine K_loop (fun m q => ∃ (n : Nat) (acc : List Term) (t : Tip) (D : List AObj) (i : Nat) (a b c d x y z : AObj), m = n ∧ 1 ≤ acc.length ∧ acc.length + n ≤ 3 ∧ (∀ t ∈ acc, GT V s (e + 4) (TB s e) t) ∧ D.length = B ∧ D[p]? = some (chObj g l i) ∧ i ≤ l.length ∧ q.ts 0 = .ptr p g 0 0 ∧ q.ts 1 = nat s ∧ q.ts 2 = nat (e + 1) ∧ q.ts 3 = .sl (V.map eVar) .no ∧ q.ts 10 = .sl (acc.map eTerm) t ∧ q.ts 11 = .int .i64 (n : Int) ∧ q.h = D ++ [a, b, c, d, x, y, z] ∧ TipK B 2 c t 1) n ?_ ?_
 · exact ⟨n, [t0], .full, D, i, _, _, _, _, _, _, _, rfl, by simp, by simp; omega, by simpa using ht0, hB, hD, hi, g0, gs, g1, g2, g7, g8, rfl, .inr (.inl rfl)⟩
 clear g0 gs g1 g2 g7 g8 hB hD hi
 rintro m ⟨ts, h, clk⟩ P ⟨n, acc, t, D, i, a, b, c, d, x, y, z, rfl, hlen1, hlen, hacc, hB, hD, hi, g0, gs, g1, g2, g7, g8, rfl, ht⟩ hnx hex hr
 dsimp only at g0 gs g1 g2 g7 g8
 have em := minus_one (e := e) (by omega)
 simp only [go_sem, Nat.reduceBEq, g0, gs, g1, g2, g7, g8, c221_0]
 refine BK_of (fun hb => ?_) (fun hb => ?_)
 · have hpos : 0 < m := by simp at hb; omega
   obtain ⟨n', rfl⟩ : ∃ n', m = n' + 1 := ⟨m - 1, by omega⟩
   have en : IntKind.i64.wrap (((n' + 1 : Nat) : Int) - 1) = (n' : Int) := minus_one (by omega)
   simp only [go_sem, Nat.reduceBEq, g0, gs, g1, g2, g7, g8, nat, em]
   refine CK_gen (hT s h1 h2) hB hs hD hi ?_
   rintro v D1 i1 ⟨t1, rfl, ht1⟩ hB1 hD1 hi1
   simp only [go_sem, Nat.reduceBEq, g0, gs, g1, g2, g7, g8, cells_sl]
   rw [show [eTerm t1] = [t1].map eTerm from rfl, append_loc hB1 rfl ht cells_terms cells_terms (by simp only [List.length_map, List.length_singleton]; omega)]
   simp only [go_sem, Nat.reduceBEq, g0, gs, g1, g2, g7, g8, en]
   refine hnx n' _ (by omega) ⟨n', acc ++ [t1], _, D1, i1, _, _, _, _, _, _, _, rfl, by simp, by simp; omega, ?_, hB1, hD1, hi1, g0, gs, g1, g2, ?_, rfl, rfl, .inr (.inr ⟨_, rfl, rfl⟩)⟩
   · intro t' ht'
     rw [List.mem_append, List.mem_singleton] at ht'
     rcases ht' with ht' | rfl
     · exact hacc t' ht'
     · exact ht1
   · simp only [upd_at, Nat.reduceBEq, cond_true, cond_false, List.map_append, List.map_cons, List.map_nil]
 · simp only [go_sem, Nat.reduceBEq, ]
   refine hex _ _ ?_
   exact hQ acc t _ D i _ _ _ _ _ _ _ _ hlen1 (by omega) hacc hB hD hi (by simp [upd_at, g0]) (by simp [upd_at, g7])
theorem gen221 {e : Nat} (hl : ChOk l) (hV : V.length ≤ 400) (he : e ≤ 3) (hN : NumOk l) (hF : FormOk l V e) (hT : TermOk l V e) : ArOk l V (e + 1) := by
 intro s hs23
 have h1 : 1 ≤ s := by omega
 have h2 : s ≤ 4 := by omega
 have hI := gen190 he hF hT
 have h6 : 6 ^ e ≤ 6 ^ 4 := Nat.pow_le_pow_right (by omega) (by omega)
 have h6' : 1 ≤ 6 ^ e := Nat.pos_of_ne_zero (by simp)
 have hTB : TB s (e + 1) = 30 * 6 ^ e := by rw [TB_step]; unfold TB; rw [if_neg (by omega)]; omega
 have hTB2 : TB s e = 5 * 6 ^ e := by unfold TB; rw [if_neg (by omega)]
 have hTB4 : TB 4 e = 5 * 6 ^ e := by unfold TB; rw [if_neg (by omega)]
 refine GenOk.of rfl fn221 rfl rfl rfl (az := [nat s, nat (e + 1), .sl (V.map eVar) .no]) rfl (by simp [idsL, ids_nat, ids_vars]) fun D B p g i clk T hB hs hD hi hR => ?_
 have em := minus_one (e := e) (by omega)
 simp only [go_sem, Nat.reduceBEq, Nat.reduceAdd, Nat.reduceLeDiff, Nat.reduceSub, reduceCtorEq, ↓reduceIte, af221, hB, nat]
 refine CK_gen (gen30 hl (by decide) (by decide)) hB hs hD hi ?_
 rintro v D2 i2 ⟨r, rfl, hr1, hr2⟩ hB2 hD2 hi2
 obtain ⟨q, rfl⟩ : ∃ k : Nat, r = k := ⟨r.toNat, by omega⟩
 have hq : q < 3 ∨ (3 ≤ q ∧ q < 5) ∨ q = 5 ∨ q = 6 ∨ q = 7 ∨ q = 8 ∨ q = 9 := by omega
 rcases hq with hq | hq | rfl | rfl | rfl | rfl | rfl
 · -- add
   have e3 : decide ((q : Int) < 3) = true := by rw [decide_eq_true_iff]; omega
   simp only [go_sem, Nat.reduceBEq, Nat.reduceAdd, Nat.reduceLeDiff, Nat.reduceSub, reduceCtorEq, ↓reduceIte, e3, em]
   refine CK_gen (hT s h1 h2) hB2 hs hD2 hi2 ?_
   rintro v D3 i3 ⟨t1, rfl, ht1⟩ hB3 hD3 hi3
   simp only [go_sem, Nat.reduceBEq, Nat.reduceAdd, Nat.reduceLeDiff, Nat.reduceSub, reduceCtorEq, ↓reduceIte, cells_sl]
   refine CK_gen (gen30 hl (by decide) (by decide)) hB3 hs hD3 hi3 ?_
   rintro v D4 i4 ⟨r4, rfl, hr3, hr4⟩ hB4 hD4 hi4
   obtain ⟨n, rfl⟩ : ∃ k : Nat, r4 = k := ⟨r4.toNat, by omega⟩
   simp only [go_sem, Nat.reduceBEq, Nat.reduceAdd, Nat.reduceLeDiff, Nat.reduceSub, reduceCtorEq, ↓reduceIte, ]
   refine arLoop (n := n) (i := i4) he (by omega) h1 h2 hT hB4 hs hD4 hi4 rfl rfl rfl rfl rfl rfl ht1 ?_
   intro acc t ts' D5 i5 a1 a2 a3 a4 a5 a6 a7 clk' hlen1 hlen hacc hB5 hD5 hi5 g0 g7
   have hfl := flat_len (m := TB s e) (az := acc) fun t ht => (hacc t ht).2.1
   have hfl2 : acc.length * TB s e ≤ 3 * TB s e := Nat.mul_le_mul_right _ hlen
   simp only [go_sem, Nat.reduceBEq, Nat.reduceAdd, Nat.reduceLeDiff, Nat.reduceSub, reduceCtorEq, ↓reduceIte, g0, g7]
   rw [CK_pure (opn (o := 14) (i := 14) (l := acc) rfl (by omega) (by omega))]
   simp only [go_sem, Nat.reduceBEq, Nat.reduceAdd, Nat.reduceLeDiff, Nat.reduceSub, reduceCtorEq, ↓reduceIte, ]
   rw [RV_eTerm]
   refine hR _ _ i5 (by rw [out_get hB5 hs]; exact hD5) hi5 ⟨_, rfl, ⟨(WF.one (forest_same fun t ht => (hacc t ht).1) (.add hlen1 hs23) (by simp [bare])).up (by omega), by rw [List.length_cons]; omega, by omega, by omega⟩⟩
 · -- mul
   have e3 : decide ((q : Int) < 3) = false := by rw [decide_eq_false_iff_not]; omega
   have e5 : decide ((q : Int) < 5) = true := by rw [decide_eq_true_iff]; omega
   simp only [go_sem, Nat.reduceBEq, Nat.reduceAdd, Nat.reduceLeDiff, Nat.reduceSub, reduceCtorEq, ↓reduceIte, e3, e5, em]
   refine CK_gen (hN s hs23) hB2 hs hD2 hi2 ?_
   rintro v D3 i3 ⟨a, rfl, ha⟩ hB3 hD3 hi3
   simp only [go_sem, Nat.reduceBEq, Nat.reduceAdd, Nat.reduceLeDiff, Nat.reduceSub, reduceCtorEq, ↓reduceIte, em]
   have hp := pure144 (s := s) (a := a)
   rw [nat] at hp
   rw [CK_pure hp]
   simp only [go_sem, Nat.reduceBEq, Nat.reduceAdd, Nat.reduceLeDiff, Nat.reduceSub, reduceCtorEq, ↓reduceIte, em]
   refine CK_gen (hT s h1 h2) hB3 hs hD3 hi3 ?_
   rintro v D4 i4 ⟨t1, rfl, ht1⟩ hB4 hD4 hi4
   have l1 := ht1.2.1
   simp only [go_sem, Nat.reduceBEq, Nat.reduceAdd, Nat.reduceLeDiff, Nat.reduceSub, reduceCtorEq, ↓reduceIte, cells_sl]
   rw [CK_pure (op2 (o := 15) (i := 15) rfl (by simp) (by omega))]
   simp only [go_sem, Nat.reduceBEq, Nat.reduceAdd, Nat.reduceLeDiff, Nat.reduceSub, reduceCtorEq, ↓reduceIte, ]
   rw [RV_eTerm]
   exact hR _ _ i4 (by rw [out_get hB4 hs]; exact hD4) hi4 ⟨_, rfl, (GT.op2 ((GT.num ha).up (d' := e + 4) (m' := 1) (by omega) (by omega)) ht1 (.mul hs23 rfl) (by omega) (by omega)).up (by omega) (by omega)⟩
 · -- ite
   simp only [go_sem, Nat.reduceBEq, Nat.reduceAdd, Nat.reduceLeDiff, Nat.reduceSub, reduceCtorEq, ↓reduceIte, Int.reduceEq, Int.reduceLT, decide_true, decide_false]
   refine CK_gen (hI s h1 h2) hB2 hs hD2 hi2 ?_
   rintro v D3 i3 ⟨t1, rfl, ht1⟩ hB3 hD3 hi3
   simp only [go_sem, Nat.reduceBEq, Nat.reduceAdd, Nat.reduceLeDiff, Nat.reduceSub, reduceCtorEq, ↓reduceIte, ]
   rw [RV_eTerm]
   exact hR _ _ i3 (by rw [out_get hB3 hs]; exact hD3) hi3 ⟨_, rfl, ht1⟩
 · -- div, mod
   rcases hs23 with rfl | rfl
   · simp only [go_sem, Nat.reduceBEq, Nat.reduceAdd, Nat.reduceLeDiff, Nat.reduceSub, reduceCtorEq, ↓reduceIte, Int.reduceEq, Int.reduceLT, decide_true, decide_false]
     refine CK_gen (gen30 hl (by decide) (by decide)) hB2 hs hD2 hi2 ?_
     rintro v D3 i3 ⟨r3, rfl, hr3, hr4⟩ hB3 hD3 hi3
     obtain ⟨z, rfl⟩ : ∃ k : Nat, r3 = k := ⟨r3.toNat, by omega⟩
     have e7 : IntKind.i64.wrap (16 + (z : Int)) = ((16 + z : Nat) : Int) := by rw [wrap_i64 (by omega) (by omega)]; omega
     simp only [go_sem, Nat.reduceBEq, Nat.reduceAdd, Nat.reduceLeDiff, Nat.reduceSub, reduceCtorEq, ↓reduceIte, e7]
     refine CK_gen (gen30 hl (by decide) (by decide)) hB3 hs hD3 hi3 ?_
     rintro v D4 i4 ⟨r5, rfl, hr5, hr6⟩ hB4 hD4 hi4
     obtain ⟨y, rfl⟩ : ∃ k : Nat, r5 = k := ⟨r5.toNat, by omega⟩
     have e8 : IntKind.i64.wrap (1 + (y : Int)) = ((1 + y : Nat) : Int) := by rw [wrap_i64 (by omega) (by omega)]; omega
     simp only [go_sem, Nat.reduceBEq, Nat.reduceAdd, Nat.reduceLeDiff, Nat.reduceSub, reduceCtorEq, ↓reduceIte, e8]
     rw [CK_pure (pure72 (by omega) (by omega)), itext, if_neg (by omega), Int.natAbs_natCast]
     simp only [go_sem, Nat.reduceBEq, Nat.reduceAdd, Nat.reduceLeDiff, Nat.reduceSub, reduceCtorEq, ↓reduceIte, hB4, K_draw, em]
     refine CK_gen (hT 2 h1 h2) hB4 hs hD4 hi4 ?_
     rintro v D5 i5 ⟨t1, rfl, ht1⟩ hB5 hD5 hi5
     have l1 := ht1.2.1
     simp only [go_sem, Nat.reduceBEq, Nat.reduceAdd, Nat.reduceLeDiff, Nat.reduceSub, reduceCtorEq, ↓reduceIte, cells_sl]
     have hp : Pure Gam 187 [.agg [.int .i64 ((16 + z : Nat) : Int), .int .i64 0, .str [], .str (dec (1 + y)), .int .i64 0], .sl [eTerm t1] .full] _ := pure187 (n := ⟨16 + z, 0, [], dec (1 + y), 0⟩) (l := [t1]) (u := .full) (by simp) (by simp; omega)
     rw [CK_pure hp]
     simp only [go_sem, Nat.reduceBEq, Nat.reduceAdd, Nat.reduceLeDiff, Nat.reduceSub, reduceCtorEq, ↓reduceIte, ]
     refine ⟨by simp [drawOk, apart, disjoint, callAt, footAt, AOp.isCall, hB4]; omega, ?_⟩
     rw [RV_eTerm]
     refine hR _ _ i5 (by rw [out_get hB5 hs]; exact hD5) hi5 ⟨_, rfl, ?_⟩
     have := WF.one (n := ⟨16 + z, 0, [], dec (1 + y), 1⟩) ht1.1 (.div (by omega) (by omega) (by omega)) rfl
     refine ⟨?_, by simp; omega, by omega, by omega⟩
     simpa using this
   · simp only [go_sem, Nat.reduceBEq, Nat.reduceAdd, Nat.reduceLeDiff, Nat.reduceSub, reduceCtorEq, ↓reduceIte, Int.reduceEq, Int.reduceLT, decide_true, decide_false]
     refine CK_gen (gen143 hl h1 h2 hV) hB2 hs hD2 hi2 ?_
     rintro v D3 i3 ⟨t1, rfl, ht1⟩ hB3 hD3 hi3
     simp only [go_sem, Nat.reduceBEq, Nat.reduceAdd, Nat.reduceLeDiff, Nat.reduceSub, reduceCtorEq, ↓reduceIte, ]
     rw [RV_eTerm]
     exact hR _ _ i3 (by rw [out_get hB3 hs]; exact hD3) hi3 ⟨_, rfl, ht1.up (by omega) (by omega)⟩
 · -- select
   rcases hs23 with rfl | rfl
   · simp only [go_sem, Nat.reduceBEq, Nat.reduceAdd, Nat.reduceLeDiff, Nat.reduceSub, reduceCtorEq, ↓reduceIte, Int.reduceEq, Int.reduceLT, decide_true, decide_false, em]
     refine CK_gen (hT 4 (by omega) (by omega)) hB2 hs hD2 hi2 ?_
     rintro v D3 i3 ⟨t1, rfl, ht1⟩ hB3 hD3 hi3
     simp only [go_sem, Nat.reduceBEq, Nat.reduceAdd, Nat.reduceLeDiff, Nat.reduceSub, reduceCtorEq, ↓reduceIte, em]
     refine CK_gen (hT 2 h1 h2) hB3 hs hD3 hi3 ?_
     rintro v D4 i4 ⟨t2, rfl, ht2⟩ hB4 hD4 hi4
     have l1 := ht1.2.1
     have l2 := ht2.2.1
     simp only [go_sem, Nat.reduceBEq, Nat.reduceAdd, Nat.reduceLeDiff, Nat.reduceSub, reduceCtorEq, ↓reduceIte, cells_sl]
     rw [CK_pure (op2 (o := 18) (i := 18) rfl (by omega) (by omega))]
     simp only [go_sem, Nat.reduceBEq, Nat.reduceAdd, Nat.reduceLeDiff, Nat.reduceSub, reduceCtorEq, ↓reduceIte, ]
     rw [RV_eTerm]
     exact hR _ _ i4 (by rw [out_get hB4 hs]; exact hD4) hi4 ⟨_, rfl, (GT.op2 ht1 ht2 .select (by omega) (by omega)).up (by omega) (by omega)⟩
   · simp only [go_sem, Nat.reduceBEq, Nat.reduceAdd, Nat.reduceLeDiff, Nat.reduceSub, reduceCtorEq, ↓reduceIte, Int.reduceEq, Int.reduceLT, decide_true, decide_false]
     refine CK_gen (gen143 hl h1 h2 hV) hB2 hs hD2 hi2 ?_
     rintro v D3 i3 ⟨t1, rfl, ht1⟩ hB3 hD3 hi3
     simp only [go_sem, Nat.reduceBEq, Nat.reduceAdd, Nat.reduceLeDiff, Nat.reduceSub, reduceCtorEq, ↓reduceIte, ]
     rw [RV_eTerm]
     exact hR _ _ i3 (by rw [out_get hB3 hs]; exact hD3) hi3 ⟨_, rfl, ht1.up (by omega) (by omega)⟩
 · -- a number
   simp only [go_sem, Nat.reduceBEq, Nat.reduceAdd, Nat.reduceLeDiff, Nat.reduceSub, reduceCtorEq, ↓reduceIte, Int.reduceEq, Int.reduceLT, decide_true, decide_false]
   refine CK_gen (hN s hs23) hB2 hs hD2 hi2 ?_
   rintro v D3 i3 ⟨a, rfl, ha⟩ hB3 hD3 hi3
   simp only [go_sem, Nat.reduceBEq, Nat.reduceAdd, Nat.reduceLeDiff, Nat.reduceSub, reduceCtorEq, ↓reduceIte, ]
   have hp := pure144 (s := s) (a := a)
   rw [nat] at hp
   rw [CK_pure hp]
   simp only [go_sem, Nat.reduceBEq, Nat.reduceAdd, Nat.reduceLeDiff, Nat.reduceSub, reduceCtorEq, ↓reduceIte, ]
   rw [RV_eTerm]
   exact hR _ _ i3 (by rw [out_get hB3 hs]; exact hD3) hi3 ⟨_, rfl, (GT.num ha).up (by omega) (by omega)⟩
 · -- a variable
   simp only [go_sem, Nat.reduceBEq, Nat.reduceAdd, Nat.reduceLeDiff, Nat.reduceSub, reduceCtorEq, ↓reduceIte, Int.reduceEq, Int.reduceLT, decide_true, decide_false]
   refine CK_gen (gen143 hl h1 h2 hV) hB2 hs hD2 hi2 ?_
   rintro v D3 i3 ⟨t1, rfl, ht1⟩ hB3 hD3 hi3
   simp only [go_sem, Nat.reduceBEq, Nat.reduceAdd, Nat.reduceLeDiff, Nat.reduceSub, reduceCtorEq, ↓reduceIte, ]
   rw [RV_eTerm]
   exact hR _ _ i3 (by rw [out_get hB3 hs]; exact hD3) hi3 ⟨_, rfl, ht1.up (by omega) (by omega)⟩
end
section
variable {l : List Int} {V : List Var}
theorem gen186 {e : Nat} (hl : ChOk l) (hV : V.length ≤ 400) (he : e ≤ 3) (hN : NumOk l) (hF : FormOk l V e) (hT : TermOk l V e) : TermOk l V (e + 1) := by
 intro s h1 h2
 have hI := gen190 he hF hT
 have hA := gen221 hl hV he hN hF hT
 have hF1 := gen145 hl hV he hF hT
 have h6 : 6 ^ e ≤ 6 ^ 4 := Nat.pow_le_pow_right (by omega) (by omega)
 have h6' : 1 ≤ 6 ^ e := Nat.pos_of_ne_zero (by simp)
 have hTB : 5 * 6 ^ e ≤ TB s e := TB_ge
 have hTBs := TB_step (s := s) (e := e)
 have hT2 : TB 2 e = 5 * 6 ^ e := rfl
 have hT4 : TB 4 e = 5 * 6 ^ e := rfl
 refine GenOk.of rfl fn186 rfl rfl rfl (az := [nat s, nat (e + 1), .sl (V.map eVar) .no]) rfl (by simp [idsL, ids_nat, ids_vars]) fun D B p g i clk T hB hs hD hi hR => ?_
 have em := minus_one (e := e) (by omega)
 have e0 : decide (((e + 1 : Nat) : Int) ≤ 0) = false := by rw [decide_eq_false_iff_not]; omega
 simp only [go_sem, Nat.reduceBEq, af186, hB, nat, e0]
 refine CK_gen gen52 hB hs hD hi ?_
 rintro v D1 i1 ⟨b, rfl⟩ hB1 hD1 hi1
 simp only [go_sem, Nat.reduceBEq, ]
 refine BK_of (fun hc => ?_) (fun hc => ?_)
 · simp only [go_sem, Nat.reduceBEq, ]
   refine CK_gen (gen30 hl (by decide) (by decide)) hB1 hs hD1 hi1 ?_
   rintro v D2 i2 ⟨r, rfl, hr1, hr2⟩ hB2 hD2 hi2
   simp only [go_sem, Nat.reduceBEq, ]
   refine BK_of (fun hc => ?_) (fun hc => ?_)
   · simp only [go_sem, Nat.reduceBEq, ]
     refine CK_gen (gen36 hl h1 h2) hB2 hs hD2 hi2 ?_
     rintro v D3 i3 hv hB3 hD3 hi3
     simp only [go_sem, Nat.reduceBEq, ]
     obtain ⟨t, hp, hg⟩ := pure188 hv
     rw [CK_pure hp]
     simp only [go_sem, Nat.reduceBEq, ]
     rw [RV_eTerm]
     exact hR _ _ i3 (by rw [out_get hB3 hs]; exact hD3) hi3 ⟨t, rfl, (hg V).up (by omega) (by omega)⟩
   · simp only [go_sem, Nat.reduceBEq, ]
     refine CK_gen (gen143 hl h1 h2 hV) hB2 hs hD2 hi2 ?_
     rintro v D3 i3 ⟨t, rfl, ht⟩ hB3 hD3 hi3
     simp only [go_sem, Nat.reduceBEq, ]
     rw [RV_eTerm]
     exact hR _ _ i3 (by rw [out_get hB3 hs]; exact hD3) hi3 ⟨t, rfl, ht.up (by omega) (by omega)⟩
 clear hD hi hc
 obtain rfl | hs23 | rfl : s = 1 ∨ (s = 2 ∨ s = 3) ∨ s = 4 := by omega
 · simp only [go_sem, Nat.reduceBEq, Int.reduceEq, decide_true, decide_false]
   refine CK_gen hF1 hB1 hs hD1 hi1 ?_
   rintro v D3 i3 ⟨t1, rfl, ht1⟩ hB3 hD3 hi3
   simp only [go_sem, Nat.reduceBEq, ]
   rw [RV_eTerm]
   exact hR _ _ i3 (by rw [out_get hB3 hs]; exact hD3) hi3 ⟨_, rfl, ht1⟩
 · have e1 : decide ((s : Int) = 1) = false := by rw [decide_eq_false_iff_not]; omega
   have e2 : decide ((s : Int) = 4) = false := by rw [decide_eq_false_iff_not]; omega
   simp only [go_sem, Nat.reduceBEq, e1, e2]
   refine CK_gen (hA s hs23) hB1 hs hD1 hi1 ?_
   rintro v D3 i3 ⟨t1, rfl, ht1⟩ hB3 hD3 hi3
   simp only [go_sem, Nat.reduceBEq, ]
   rw [RV_eTerm]
   exact hR _ _ i3 (by rw [out_get hB3 hs]; exact hD3) hi3 ⟨_, rfl, ht1⟩
 · simp only [go_sem, Nat.reduceBEq, Int.reduceEq, decide_true, decide_false]
   refine CK_gen (gen30 hl (by decide) (by decide)) hB1 hs hD1 hi1 ?_
   rintro v D2 i2 ⟨r, rfl, hr1, hr2⟩ hB2 hD2 hi2
   obtain ⟨q, rfl⟩ : ∃ k : Nat, r = k := ⟨r.toNat, by omega⟩
   obtain rfl | hq | rfl | rfl : q = 0 ∨ (q = 1 ∨ q = 2) ∨ q = 3 ∨ q = 4 := by omega
   · simp only [go_sem, Nat.reduceBEq, Int.reduceEq, decide_true, decide_false, em]
     refine CK_gen (hT 2 (by omega) (by omega)) hB2 hs hD2 hi2 ?_
     rintro v D3 i3 ⟨t1, rfl, ht1⟩ hB3 hD3 hi3
     have l1 := ht1.2.1
     simp only [go_sem, Nat.reduceBEq, cells_sl]
     rw [CK_pure (op1 (o := 20) (i := 20) rfl (by omega))]
     simp only [go_sem, Nat.reduceBEq, ]
     rw [RV_eTerm]
     exact hR _ _ i3 (by rw [out_get hB3 hs]; exact hD3) hi3 ⟨_, rfl, (GT.op1 ht1 .const (by omega) (by omega)).up (by omega) (by omega)⟩
   · rcases hq with rfl | rfl
     all_goals
       simp only [go_sem, Nat.reduceBEq, Int.reduceEq, decide_true, decide_false, em]
       refine CK_gen (hT 4 (by omega) (by omega)) hB2 hs hD2 hi2 ?_
       rintro v D3 i3 ⟨t1, rfl, ht1⟩ hB3 hD3 hi3
       simp only [go_sem, Nat.reduceBEq, em]
       refine CK_gen (hT 2 (by omega) (by omega)) hB3 hs hD3 hi3 ?_
       rintro v D4 i4 ⟨t2, rfl, ht2⟩ hB4 hD4 hi4
       simp only [go_sem, Nat.reduceBEq, em]
       refine CK_gen (hT 2 (by omega) (by omega)) hB4 hs hD4 hi4 ?_
       rintro v D5 i5 ⟨t3, rfl, ht3⟩ hB5 hD5 hi5
       have l1 := ht1.2.1
       have l2 := ht2.2.1
       have l3 := ht3.2.1
       simp only [go_sem, Nat.reduceBEq, cells_sl]
       rw [CK_pure (op3 (o := 19) (i := 19) rfl (by omega) (by omega) (by omega))]
       simp only [go_sem, Nat.reduceBEq, ]
       rw [RV_eTerm]
       exact hR _ _ i5 (by rw [out_get hB5 hs]; exact hD5) hi5 ⟨_, rfl, (GT.op3 ht1 ht2 ht3 .store (by omega) (by omega)).up (by omega) (by omega)⟩
   · simp only [go_sem, Nat.reduceBEq, Int.reduceEq, decide_true, decide_false]
     refine CK_gen (hI 4 (by omega) (by omega)) hB2 hs hD2 hi2 ?_
     rintro v D3 i3 ⟨t1, rfl, ht1⟩ hB3 hD3 hi3
     simp only [go_sem, Nat.reduceBEq, ]
     rw [RV_eTerm]
     exact hR _ _ i3 (by rw [out_get hB3 hs]; exact hD3) hi3 ⟨_, rfl, ht1⟩
   · simp only [go_sem, Nat.reduceBEq, Int.reduceEq, decide_true, decide_false]
     refine CK_gen (gen143 hl h1 h2 hV) hB2 hs hD2 hi2 ?_
     rintro v D3 i3 ⟨t1, rfl, ht1⟩ hB3 hD3 hi3
     simp only [go_sem, Nat.reduceBEq, ]
     rw [RV_eTerm]
     exact hR _ _ i3 (by rw [out_get hB3 hs]; exact hD3) hi3 ⟨_, rfl, ht1.up (by omega) (by omega)⟩
theorem term_form (hl : ChOk l) (hV : V.length ≤ 400) (hN : NumOk l) : ∀ d, d ≤ 4 → TermOk l V d ∧ FormOk l V d
 | 0, _ => by
   refine ⟨fun s h1 h2 h p g i clk Q hs hi hQ => ?_, gen145_zero hl hV⟩
   refine gen186_leaf hl hV h1 h2 h p g i clk Q hs hi fun v i' hi' hv => hQ v i' hi' ?_
   obtain ⟨t, rfl, ht⟩ := hv
   have := TB_ge (s := s) (e := 0)
   exact ⟨t, rfl, ht.up (by omega) (by omega)⟩
 | d + 1, hd => by
   obtain ⟨hT, hF⟩ := term_form hl hV hN d (by omega)
   exact ⟨gen186 hl hV (by omega) hN hF hT, gen145 hl hV (by omega) hF hT⟩
end
section
variable {l : List Int} {V : List Var}
def GuardOk (l : List Int) (V : List Var) (d : Nat) : Prop := GenOk l 98 [nat d, .sl (V.map eVar) .no] (TermR V 1 (d + 8) (400 * 2 ^ d - 1))
theorem num_dig {s k : Nat} (hs : s = 2 ∨ s = 3) (h : k < 10) : NumS s [48 + k] := by
 rcases hs with rfl | rfl
 · exact .inl ⟨rfl, ints_dig h⟩
 · exact .inr ⟨rfl, .inl (ints_dig h)⟩
theorem gen98 {d : Nat} (hl : ChOk l) (hV : V.length ≤ 400) (hd : d ≤ 6) (hF : FormOk l V 2) (hG : ∀ e, d = e + 1 → GuardOk l V e) : GuardOk l V d := by
 have h2d : 1 ≤ 2 ^ d := Nat.pos_of_ne_zero (by simp)
 have hF2 : 11 * 6 ^ 2 = 396 := rfl
 refine GenOk.of rfl fn98 rfl rfl rfl (az := [nat d, .sl (V.map eVar) .no]) rfl (by simp [idsL, ids_nat, ids_vars]) fun D B p g i clk T hB hs hD hi hR => ?_
 simp only [go_sem, Nat.reduceBEq, af98, hB, nat]
 refine CK_gen (gen30 hl (by decide) (by decide)) hB hs hD hi ?_
 rintro v D2 i2 ⟨r, rfl, hr1, hr2⟩ hB2 hD2 hi2
 obtain ⟨q, rfl⟩ : ∃ k : Nat, r = k := ⟨r.toNat, by omega⟩
 have hb0 : (decide ((d : Int) ≤ 0) = true ∧ d = 0) ∨ (decide ((d : Int) ≤ 0) = false ∧ ∃ e, d = e + 1) := by
   rcases Nat.eq_zero_or_pos d with rfl | h
   · exact .inl ⟨rfl, rfl⟩
   · exact .inr ⟨by rw [decide_eq_false_iff_not]; omega, d - 1, by omega⟩
 -- the six choices
 have F0 : ∀ (D : List AObj) (i : Nat) (L : List AObj), D.length = B → D[p]? = some (chObj g l i) → i ≤ l.length → T (eTerm [⟨1, 0, [], [], 0⟩]) (D ++ L) := fun D i L h1 h2 h3 => hR _ _ i (by rw [out_get h1 hs]; exact h2) h3 ⟨_, rfl, (GT.leaf (n := bare 1 0) (.bool (.inl rfl)) rfl (by omega) (by omega)).up (by omega) (by omega)⟩
 obtain rfl | rfl | rfl | hq | rfl : q = 0 ∨ q = 1 ∨ q = 2 ∨ (q = 3 ∨ q = 4) ∨ q = 5 := by omega
 · rcases hb0 with ⟨hb0, _⟩ | ⟨hb0, _⟩
   all_goals
     simp only [go_sem, Nat.reduceBEq, hb0, Int.reduceEq, decide_true, decide_false, Bool.not_true, Bool.not_false]
     rw [CK_pure pure141]
     simp only [go_sem, Nat.reduceBEq, if_true]
     rw [RV_eTerm]
     exact F0 D2 i2 _ hB2 hD2 hi2
 · rcases hb0 with ⟨hb0, _⟩ | ⟨hb0, _⟩
   all_goals
     simp only [go_sem, Nat.reduceBEq, hb0, Int.reduceEq, decide_true, decide_false, Bool.not_true, Bool.not_false]
     refine CK_gen (gen143 (s := 2) hl (by omega) (by omega) hV) hB2 hs hD2 hi2 ?_
     rintro v D3 i3 ⟨t1, rfl, ht1⟩ hB3 hD3 hi3
     have l1 := ht1.2.1
     simp only [go_sem, Nat.reduceBEq, ]
     refine CK_gen (gen30 hl (by decide) (by decide)) hB3 hs hD3 hi3 ?_
     rintro v D4 i4 ⟨r4, rfl, hr3, hr4⟩ hB4 hD4 hi4
     obtain ⟨n, rfl⟩ : ∃ k : Nat, r4 = k := ⟨r4.toNat, by omega⟩
     simp only [go_sem, Nat.reduceBEq, ]
     rw [CK_pure (pure72 (by omega) (by omega)), itext_dig (by omega)]
     simp only [go_sem, Nat.reduceBEq, ]
     have hp : Pure Gam 144 [.int .i64 2, .str [48 + n]] _ := pure144 (s := 2) (a := [48 + n])
     rw [CK_pure hp]
     simp only [go_sem, Nat.reduceBEq, cells_sl]
     rw [CK_pure (op2 (o := 12) (i := 12) rfl (by omega) (by simp))]
     simp only [go_sem, Nat.reduceBEq, ]
     rw [RV_eTerm]
     exact hR _ _ i4 (by rw [out_get hB4 hs]; exact hD4) hi4 ⟨_, rfl, (GT.op2 ht1 ((GT.num (num_dig (s := 2) (k := n) (.inl rfl) (by omega))).up (d' := 3) (m' := 1) (by omega) (by omega)) (.cmp (.inl rfl) (.inl rfl)) (by omega) (by omega)).up (by omega) (by omega)⟩
 · rcases hb0 with ⟨hb0, _⟩ | ⟨hb0, _⟩
   all_goals
     simp only [go_sem, Nat.reduceBEq, hb0, Int.reduceEq, decide_true, decide_false, Bool.not_true, Bool.not_false]
     refine CK_gen (gen143 (s := 2) hl (by omega) (by omega) hV) hB2 hs hD2 hi2 ?_
     rintro v D3 i3 ⟨t1, rfl, ht1⟩ hB3 hD3 hi3
     have l1 := ht1.2.1
     simp only [go_sem, Nat.reduceBEq, ]
     refine CK_gen (gen143 (s := 2) hl (by omega) (by omega) hV) hB3 hs hD3 hi3 ?_
     rintro v D4 i4 ⟨t2, rfl, ht2⟩ hB4 hD4 hi4
     have l2 := ht2.2.1
     simp only [go_sem, Nat.reduceBEq, ]
     refine CK_gen (gen30 hl (by decide) (by decide)) hB4 hs hD4 hi4 ?_
     rintro v D5 i5 ⟨r4, rfl, hr3, hr4⟩ hB5 hD5 hi5
     obtain ⟨n, rfl⟩ : ∃ k : Nat, r4 = k := ⟨r4.toNat, by omega⟩
     simp only [go_sem, Nat.reduceBEq, ]
     rw [CK_pure (pure72 (by omega) (by omega)), itext_dig (by omega)]
     simp only [go_sem, Nat.reduceBEq, ]
     have hp : Pure Gam 144 [.int .i64 2, .str [48 + n]] _ := pure144 (s := 2) (a := [48 + n])
     rw [CK_pure hp]
     simp only [go_sem, Nat.reduceBEq, cells_sl]
     have hadd := GT.op2 (o := 14) ht2 ((GT.num (V := V) (num_dig (s := 2) (k := n) (.inl rfl) (by omega))).up (d' := 3) (m' := 1) (by omega) (by omega)) (.add (k := 2) (by omega) (.inl rfl)) (by omega) (by omega)
     rw [CK_pure (op2 (o := 14) (i := 14) rfl (by omega) (by simp))]
     simp only [go_sem, Nat.reduceBEq, cells_sl]
     rw [CK_pure (op2 (o := 11) (i := 11) rfl (by omega) (by have := hadd.2.1; omega))]
     simp only [go_sem, Nat.reduceBEq, ]
     rw [RV_eTerm]
     exact hR _ _ i5 (by rw [out_get hB5 hs]; exact hD5) hi5 ⟨_, rfl, (GT.op2 (ht1.up (d' := 4) (m' := 5) (by omega) (by omega)) hadd (.eq (by omega) (by omega)) (by omega) (by omega)).up (by omega) (by omega)⟩
 · rcases hb0 with ⟨hb0, hd0⟩ | ⟨hb0, e, rfl⟩
   · rcases hq with rfl | rfl
     all_goals
       simp only [go_sem, Nat.reduceBEq, hb0, Int.reduceEq, decide_true, decide_false, Bool.not_true, Bool.not_false]
       rw [CK_pure pure141]
       simp only [go_sem, Nat.reduceBEq, if_true]
       rw [RV_eTerm]
       exact F0 D2 i2 _ hB2 hD2 hi2
   · have em := minus_one (e := e) (by omega)
     have hg := hG e rfl
     have hpow : 2 ^ (e + 1) = 2 * 2 ^ e := by rw [Nat.pow_succ, Nat.mul_comm]
     have h2e : 2 ^ e ≤ 2 ^ 6 := Nat.pow_le_pow_right (by omega) (by omega)
     rcases hq with rfl | rfl
     · simp only [go_sem, Nat.reduceBEq, hb0, Int.reduceEq, decide_true, decide_false, Bool.not_true, Bool.not_false, em]
       refine CK_gen hg hB2 hs hD2 hi2 ?_
       rintro v D3 i3 ⟨t1, rfl, ht1⟩ hB3 hD3 hi3
       simp only [go_sem, Nat.reduceBEq, em]
       refine CK_gen hg hB3 hs hD3 hi3 ?_
       rintro v D4 i4 ⟨t2, rfl, ht2⟩ hB4 hD4 hi4
       have l1 := ht1.2.1
       have l2 := ht2.2.1
       simp only [go_sem, Nat.reduceBEq, cells_sl]
       rw [CK_pure (op2 (o := 7) (i := 7) rfl (by omega) (by omega))]
       simp only [go_sem, Nat.reduceBEq, ]
       rw [RV_eTerm]
       exact hR _ _ i4 (by rw [out_get hB4 hs]; exact hD4) hi4 ⟨_, rfl, (GT.op2 ht1 ht2 (.andor (k := 2) (.inl rfl)) (by omega) (by omega)).up (by omega) (by omega)⟩
     · simp only [go_sem, Nat.reduceBEq, hb0, Int.reduceEq, decide_true, decide_false, Bool.not_true, Bool.not_false, em]
       refine CK_gen hg hB2 hs hD2 hi2 ?_
       rintro v D3 i3 ⟨t1, rfl, ht1⟩ hB3 hD3 hi3
       simp only [go_sem, Nat.reduceBEq, em]
       refine CK_gen hg hB3 hs hD3 hi3 ?_
       rintro v D4 i4 ⟨t2, rfl, ht2⟩ hB4 hD4 hi4
       have l1 := ht1.2.1
       have l2 := ht2.2.1
       simp only [go_sem, Nat.reduceBEq, cells_sl]
       rw [CK_pure (op2 (o := 8) (i := 8) rfl (by omega) (by omega))]
       simp only [go_sem, Nat.reduceBEq, ]
       rw [RV_eTerm]
       exact hR _ _ i4 (by rw [out_get hB4 hs]; exact hD4) hi4 ⟨_, rfl, (GT.op2 ht1 ht2 (.andor (k := 2) (.inr rfl)) (by omega) (by omega)).up (by omega) (by omega)⟩
 · rcases hb0 with ⟨hb0, _⟩ | ⟨hb0, _⟩
   all_goals
     simp only [go_sem, Nat.reduceBEq, hb0, Int.reduceEq, decide_true, decide_false, Bool.not_true, Bool.not_false]
     refine CK_gen hF hB2 hs hD2 hi2 ?_
     rintro v D3 i3 ⟨t1, rfl, ht1⟩ hB3 hD3 hi3
     simp only [go_sem, Nat.reduceBEq, ]
     rw [RV_eTerm]
     exact hR _ _ i3 (by rw [out_get hB3 hs]; exact hD3) hi3 ⟨_, rfl, ht1.up (by omega) (by omega)⟩
theorem guard_all (hl : ChOk l) (hV : V.length ≤ 400) (hN : NumOk l) : ∀ d, d ≤ 6 → GuardOk l V d
 | 0, _ => gen98 hl hV (by omega) (term_form hl hV hN 2 (by omega)).2 fun e h => by omega
 | d + 1, hd => gen98 hl hV hd (term_form hl hV hN 2 (by omega)).2 fun e h => by
   obtain rfl : e = d := by omega
   exact guard_all hl hV hN e (by omega)
theorem gen140 {s : Nat} {u : Tip} (hl : ChOk l) (hV : V.length ≤ 400) (hN : NumOk l) (h1 : 1 ≤ s) (h2 : s ≤ 4) : GenOk l 140 [nat s, .sl (V.map eVar) u] (TermR V s 5 66) := by
 have hT := (term_form hl hV hN 1 (by omega)).1 s h1 h2
 have hTB := TB_le (s := s) (e := 1)
 refine GenOk.of rfl fn140 rfl rfl rfl (az := [nat s, .sl (V.map eVar) .no]) rfl (by simp [idsL, ids_nat, ids_vars]) fun D B p g i clk T hB hs hD hi hR => ?_
 simp only [go_sem, Nat.reduceBEq, af140, hB, nat]
 refine CK_gen (gen30 hl (by decide) (by decide)) hB hs hD hi ?_
 rintro v D2 i2 ⟨r, rfl, hr1, hr2⟩ hB2 hD2 hi2
 simp only [go_sem, Nat.reduceBEq, ]
 refine BK_of (fun hc => ?_) (fun hc => ?_)
 · simp only [go_sem, Nat.reduceBEq, ]
   refine CK_gen hT hB2 hs hD2 hi2 ?_
   rintro v D3 i3 ⟨t1, rfl, ht1⟩ hB3 hD3 hi3
   simp only [go_sem, Nat.reduceBEq, ]
   rw [RV_eTerm]
   exact hR _ _ i3 (by rw [out_get hB3 hs]; exact hD3) hi3 ⟨_, rfl, ht1.up (by omega) (by omega)⟩
 · simp only [go_sem, Nat.reduceBEq, ]
   refine CK_gen (gen143 hl h1 h2 hV) hB2 hs hD2 hi2 ?_
   rintro v D3 i3 ⟨t1, rfl, ht1⟩ hB3 hD3 hi3
   simp only [go_sem, Nat.reduceBEq, ]
   rw [RV_eTerm]
   exact hR _ _ i3 (by rw [out_get hB3 hs]; exact hD3) hi3 ⟨_, rfl, ht1.up (by omega) (by omega)⟩
end
section
variable {l : List Int} {V : List Var} {ps : List Func}
def PredsOk (ps : List Func) : Prop := 0 < ps.length ∧ ps.length ≤ 5 ∧ ∀ f ∈ ps, f.args.length ≤ 3 ∧ ∀ s ∈ f.args, 1 ≤ s ∧ s ≤ 4
def AppOk (ps : List Func) (V : List Var) (a : App) : Prop := ∃ f ∈ ps, a.pred = f.name ∧ a.args.length = f.args.length ∧ ∀ q ∈ f.args.zip a.args, GT V q.1 5 66 q.2
theorem idx_func {l : List Func} {i : Nat} {h : List AObj} {t : Tip} {k : IntKind} (hi : i < l.length) : idxAV h 3 (.sl (l.map eFunc) t) (.int k (i : Int)) = some (.iptr [.str l[i].name, .sl (l[i].args.map nat) .no, nat l[i].result] 0, h) := idx_map hi rfl rfl
theorem idx_nat {l : List Nat} {i : Nat} {h : List AObj} {t : Tip} {k : IntKind} (hi : i < l.length) : idxAV h 1 (.sl (l.map nat) t) (.int k (i : Int)) = some (.iptr [nat l[i]] 0, h) := idx_map hi rfl rfl
theorem ids_funcs {ps : List Func} : (AV.sl (ps.map eFunc) .no).ids = [] := ids_sl ids_func
theorem zip_snoc {α β : Type} {y : β} : ∀ {ys : List β} {xs : List α} (h : ys.length < xs.length), xs.zip (ys ++ [y]) = xs.zip ys ++ [(xs[ys.length], y)]
 | [], x :: xs, _ => by simp
 | z :: ys, x :: xs, h => by
   have := zip_snoc (y := y) (ys := ys) (xs := xs) (by simpa using h)
   simp [this]
theorem gen97 {u w : Tip} (hl : ChOk l) (hV : V.length ≤ 400) (hN : NumOk l) (hP : PredsOk ps) : GenOk l 97 [.sl (ps.map eFunc) u, .sl (V.map eVar) w] (fun v => ∃ a, v = eApp a ∧ AppOk ps V a) := by
 obtain ⟨hp0, hp5, hpf⟩ := hP
 refine GenOk.of rfl fn97 rfl rfl rfl (az := [.sl (ps.map eFunc) .no, .sl (V.map eVar) .no]) rfl (by simp [idsL, ids_funcs, ids_vars]) fun D B p g i clk T hB hs hD hi hR => ?_
 simp only [go_sem, Nat.reduceBEq, Nat.reduceAdd, Nat.reduceLeDiff, Nat.reduceSub, reduceCtorEq, ↓reduceIte, af97, hB, List.length_map]
 refine CK_gen (gen30 hl (by omega) (by omega)) hB hs hD hi ?_
 rintro v D2 i2 ⟨r, rfl, hr1, hr2⟩ hB2 hD2 hi2
 obtain ⟨k, rfl⟩ : ∃ k : Nat, r = k := ⟨r.toNat, by omega⟩
 have hk : k < ps.length := by omega
 have hf := hpf ps[k] (List.getElem_mem hk)
 generalize hfk : ps[k] = f at hf
 have hmem : f ∈ ps := hfk ▸ List.getElem_mem hk
 simp only [go_sem, Nat.reduceBEq, Nat.reduceAdd, Nat.reduceLeDiff, Nat.reduceSub, reduceCtorEq, ↓reduceIte, hB2, idx_func hk, hfk, nat]
 refine K_loop (fun m q => ∃ (j : Nat) (acc : List Term) (t : Tip) (D : List AObj) (i g0 g1 g2 : Nat) (o3 o4 : AObj), j ≤ f.args.length ∧ m = f.args.length - j ∧ acc.length = j ∧ (∀ q ∈ f.args.zip acc, GT V q.1 5 66 q.2) ∧ D.length = B ∧ D[p]? = some (chObj g l i) ∧ i ≤ l.length ∧
   q.ts 0 = .ptr p g 0 0 ∧ q.ts 2 = .sl (V.map eVar) .no ∧ q.ts 6 = .ptr (B + 0) g0 0 0 ∧ q.ts 7 = .ptr (B + 1) g1 0 0 ∧ q.ts 8 = .ptr (B + 2) g2 0 0 ∧ q.ts 9 = .int .i64 j ∧
   q.h = D ++ [.blk g0 [.agg [.str [], .sl [] .nil]] false false 0, .blk g1 [.agg [.str f.name, .sl (f.args.map nat) .no, .int .i64 (f.result : Int)]] false false 0, .blk g2 [.agg [.str f.name, .sl (acc.map eTerm) t]] false false 0, o3, o4] ∧ TipK B 4 o4 t 1) f.args.length ?_ ?_
 · exact ⟨0, [], .nil, D2, i2, _, _, _, _, _, by simp, rfl, rfl, by simp, hB2, hD2, hi2, rfl, rfl, rfl, rfl, rfl, rfl, rfl, .inl rfl⟩
 clear hB2 hD2 hi2 hB hD hi
 rintro m ⟨ts, h, clk⟩ P ⟨j, acc, t, D, i, g0, g1, g2, o3, o4, hj, rfl, hal, hacc, hB, hD, hi, q0, q2, q6, q7, q8, q9, rfl, ht⟩ hn he hr
 dsimp only at q0 q2 q6 q7 q8 q9
 simp only [go_sem, Nat.reduceBEq, Nat.reduceAdd, Nat.reduceLeDiff, Nat.reduceSub, reduceCtorEq, ↓reduceIte, q0, q2, q6, q7, q8, q9, hB, List.length_map, c97_0]
 refine BK_of (fun hb => ?_) (fun hb => ?_)
 · have hlt : j < f.args.length := by simp at hb; omega
   have hsj := hf.2 f.args[j] (List.getElem_mem hlt)
   have e1 : IntKind.i64.wrap ((j : Int) + 1) = ((j + 1 : Nat) : Int) := wrap_i64 (by omega) (by omega)
   simp only [go_sem, Nat.reduceBEq, Nat.reduceAdd, Nat.reduceLeDiff, Nat.reduceSub, reduceCtorEq, ↓reduceIte, q0, q2, q6, q7, q8, q9, hB, K_draw, idx_nat hlt]
   refine CK_gen (gen140 hl hV hN hsj.1 hsj.2) hB hs hD hi ?_
   rintro v D1 i1 ⟨t1, rfl, ht1⟩ hB1 hD1 hi1
   simp only [go_sem, Nat.reduceBEq, Nat.reduceAdd, Nat.reduceLeDiff, Nat.reduceSub, reduceCtorEq, ↓reduceIte, q0, q2, q6, q7, q8, q9, hB1, cells_sl]
   rw [show [eTerm t1] = [t1].map eTerm from rfl, append_loc hB1 rfl ht cells_terms cells_terms (by simp only [List.length_map, List.length_singleton]; omega)]
   have happ : acc.map eTerm ++ [eTerm t1] = (acc ++ [t1]).map eTerm := by simp
   simp only [go_sem, Nat.reduceBEq, Nat.reduceAdd, Nat.reduceLeDiff, Nat.reduceSub, reduceCtorEq, ↓reduceIte, q0, q2, q6, q7, q8, q9, hB1, e1, happ]
   refine ⟨by simp [drawOk, apart, disjoint, callAt, footAt, AOp.isCall, hB, ids_nat, idsL_map]; omega, ?_⟩
   refine hn (f.args.length - (j + 1)) _ (by omega) ⟨j + 1, acc ++ [t1], _, D1, i1, g0, g1, g2, _, _, hlt, rfl, by simp [hal], ?_, hB1, hD1, hi1, q0, q2, q6, q7, q8, rfl, rfl, .inr (.inr ⟨_, rfl, rfl⟩)⟩
   subst hal
   rw [zip_snoc hlt]
   intro q hq
   rw [List.mem_append, List.mem_singleton] at hq
   rcases hq with hq | rfl
   · exact hacc q hq
   · exact ht1
 · have hjf : j = f.args.length := by simp at hb; omega
   simp only [go_sem, Nat.reduceBEq, Nat.reduceAdd, Nat.reduceLeDiff, Nat.reduceSub, reduceCtorEq, ↓reduceIte, q0, q2, q6, q7, q8, q9, hB]
   refine he _ _ ?_
   simp only [go_sem, Nat.reduceBEq, Nat.reduceAdd, Nat.reduceLeDiff, Nat.reduceSub, reduceCtorEq, ↓reduceIte, q0, q2, q6, q7, q8, q9, hB]
   have hid : (AV.agg [.str f.name, .sl (acc.map eTerm) t]).cv.ids = [] := ids_app ⟨f.name, acc⟩
   rw [RV_one rfl hid]
   exact hR _ _ i (by rw [out_get hB hs]; exact hD) hi ⟨⟨f.name, acc⟩, rfl, f, hmem, rfl, by rw [hal, hjf], hacc⟩
end
end Go.Proofs.YtbeooboebfbchaaGreatDoor.Am
