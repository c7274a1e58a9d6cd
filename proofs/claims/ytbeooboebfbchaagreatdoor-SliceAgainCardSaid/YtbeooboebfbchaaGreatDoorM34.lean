/- Walking: clauses are generated. Walking: clauses are generated (2). Walking: systems are generated. Walking: systems are generated (2). -/
import Derived.Test.YtbeooboebfbchaaGreatDoorM33
set_option linter.unusedVariables false
set_option linter.unusedSimpArgs false
namespace Go.Proofs.YtbeooboebfbchaaGreatDoor.Am
open Go
set_option maxRecDepth 100000
section
variable {l : List Int} {V : List Var} {ps : List Func}
theorem GenOk.conv {f : Nat} {args args' : List AV} {af : AFun} {R : AV → Prop} (h : GenOk l f args R) (hext : Gam.ext f = none) (hfn : Gam.fn f = some af) (hb : af.byref = []) (ho : obsL args = []) (ho' : obsL args' = []) (he : cvL args' = cvL args) : GenOk l f args' R := by
 have hob : ∀ s g, obsL (.ptr s g 0 0 :: args) = [] := fun s g => by simp [obsL, AV.obs, ho]
 have hob' : ∀ s g, obsL (.ptr s g 0 0 :: args') = [] := fun s g => by simp [obsL, AV.obs, ho']
 have hcv : ∀ s g, cvL (.ptr s g 0 0 :: args') = cvL (.ptr s g 0 0 :: args) := fun s g => by simp [cvL, he]
 have key : ∀ k s g h clk, callA Gam k f (.ptr s g 0 0 :: args') h clk = callA Gam k f (.ptr s g 0 0 :: args) h clk := by
   intro k s g h clk
   unfold callA callWith
   simp only [hext, hfn, hb, passArgs_cv (hob s g), passArgs_cv (hob' s g), lent_nil (hob s g), lent_nil (hob' s g), hcv s g]
 have kf : ∀ s g h, callFoot Gam f (.ptr s g 0 0 :: args') h = callFoot Gam f (.ptr s g 0 0 :: args) h := by
   intro s g h
   unfold callFoot
   simp only [hext, hfn, hb, passArgs_cv (hob s g), passArgs_cv (hob' s g), hob s g, hob' s g, hcv s g]
 intro hh s g i clk Q h1 h2 h3
 obtain ⟨⟨k, v, h', c, h4, h5⟩, h6⟩ := h hh s g i clk Q h1 h2 h3
 exact ⟨⟨k, v, h', c, by rw [key]; exact h4, h5⟩, by rw [kf]; exact h6⟩
def allVars : List Var := [⟨[120], 2⟩, ⟨[121], 2⟩, ⟨[122], 3⟩, ⟨[119], 3⟩, ⟨[112], 1⟩, ⟨[98], 1⟩, ⟨[97], 4⟩, ⟨[99], 4⟩]
theorem pure96 : Pure Gam 96 [] (.sl (allVars.map eVar) .no) := Pure.tab (tab := tab96) rfl rfl rfl
def HeadOk (ps : List Func) (V : List Var) (a : App) : Prop := (a.pred = [] ∧ a.args = []) ∨ AppOk ps V a
def ClauseOk (ps : List Func) (c : Clause) : Prop := List.Sublist c.vars allVars ∧ c.body.length ≤ 2 ∧ (∀ a ∈ c.body, AppOk ps c.vars a) ∧ GT c.vars 1 11 3199 c.guard ∧ HeadOk ps c.vars c.head
theorem varLoop {B p g i clk g0 : Nat} {D : List AObj} {ts : Tmps} {o b c d x y : AObj} {ks : List Kf} {Q : Post} (hl : ChOk l) (hB : D.length = B) (hs : p < B) (hD : D[p]? = some (chObj g l i)) (hi : i ≤ l.length) {q : Bool}
   (h0 : ts 0 = .ptr p g 0 0) (h1 : ts 1 = .sl (ps.map eFunc) .no) (h2 : ts 2 = .bool q) (h6 : ts 6 = .ptr (B + 0) g0 0 0) (h7 : ts 7 = .sl (allVars.map eVar) .no) (h8 : ts 8 = .sl [] .nil) (h9 : ts 9 = .int .i64 0)
   (hQ : ∀ (acc : List Var) (t : Tip) (ts' : Tmps) (D' : List AObj) (i' : Nat) (b c d x y : AObj) (clk' : Nat), acc.Sublist allVars → D'.length = B → D'[p]? = some (chObj g l i') → i' ≤ l.length → ts' 0 = .ptr p g 0 0 → ts' 1 = .sl (ps.map eFunc) .no → ts' 2 = .bool q → ts' 6 = .ptr (B + 0) g0 0 0 → ts' 8 = .sl (acc.map eVar) t → K Gam B (.exit 0) ks ⟨ts', D' ++ [o, b, c, d, x, y], clk'⟩ Q) :
   K Gam B (.loop c53_1) ks ⟨ts, D ++ [o, b, c, d, x, y], clk⟩ Q := by
 refine K_loop (fun m s => ∃ (j : Nat) (acc : List Var) (t : Tip) (D : List AObj) (i : Nat) (b c d x y : AObj), j ≤ 8 ∧ m = 8 - j ∧ acc.Sublist (allVars.take j) ∧ D.length = B ∧ D[p]? = some (chObj g l i) ∧ i ≤ l.length ∧ s.ts 0 = .ptr p g 0 0 ∧ s.ts 1 = .sl (ps.map eFunc) .no ∧ s.ts 2 = .bool q ∧ s.ts 6 = .ptr (B + 0) g0 0 0 ∧ s.ts 7 = .sl (allVars.map eVar) .no ∧ s.ts 8 = .sl (acc.map eVar) t ∧ s.ts 9 = .int .i64 (j : Int) ∧ s.h = D ++ [o, b, c, d, x, y] ∧ TipK B 2 c t 2) 8 ?_ ?_
 · exact ⟨0, [], .nil, D, i, _, _, _, _, _, by omega, rfl, by simp, hB, hD, hi, h0, h1, h2, h6, h7, h8, h9, rfl, .inl rfl⟩
 clear h0 h1 h2 h6 h7 h8 h9 hB hD hi
 rintro m ⟨ts, h, clk⟩ P ⟨j, acc, t, D, i, b, c, d, x, y, hj, rfl, hacc, hB, hD, hi, h0, h1, h2, h6, h7, h8, h9, rfl, ht⟩ hn he hr
 dsimp only at h0 h1 h2 h6 h7 h8 h9
 have hlen : allVars.length = 8 := rfl
 simp only [go_sem, Nat.reduceBEq, Nat.reduceLeDiff, h0, h1, h2, h6, h7, h8, h9, List.length_map, hlen, c53_1]
 refine BK_of (fun hb => ?_) (fun hb => ?_)
 · have hlt : j < allVars.length := by simp at hb; omega
   have e1 : IntKind.i64.wrap ((j : Int) + 1) = ((j + 1 : Nat) : Int) := wrap_i64 (by omega) (by omega)
   have hal : acc.length ≤ 8 := by have := hacc.length_le; simp at this; omega
   simp only [go_sem, Nat.reduceBEq, Nat.reduceLeDiff, h0, h1, h2, h6, h7, h8, h9]
   refine CK_gen (gen30 hl (by decide) (by decide)) hB hs hD hi ?_
   rintro v D2 i2 ⟨r, rfl, hr1, hr2⟩ hB2 hD2 hi2
   simp only [go_sem, Nat.reduceBEq, Nat.reduceLeDiff, h0, h1, h2, h6, h7, h8, h9]
   refine BK_of (fun hc => ?_) (fun hc => ?_)
   · simp only [go_sem, Nat.reduceBEq, Nat.reduceLeDiff, h0, h1, h2, h6, h7, h8, h9, idx_var hlt, nat]
     rw [show [AV.agg [.str allVars[j].name, .int .i64 (allVars[j].sort : Int)]] = [allVars[j]].map eVar from rfl, append_loc hB2 rfl ht cells_vars cells_vars (by simp only [List.length_map, List.length_singleton]; omega)]
     simp only [go_sem, Nat.reduceBEq, Nat.reduceLeDiff, h0, h1, h2, h6, h7, h8, h9, e1]
     refine hn (8 - (j + 1)) _ (by omega) ⟨j + 1, acc ++ [allVars[j]], _, D2, i2, _, _, _, _, _, by omega, rfl, ?_, hB2, hD2, hi2, h0, h1, h2, h6, h7, ?_, rfl, rfl, .inr (.inr ⟨_, rfl, rfl⟩)⟩
     · rw [List.take_succ_eq_append_getElem hlt]
       exact hacc.append (List.Sublist.refl _)
     · simp only [upd_at, Nat.reduceBEq, cond_true, cond_false, List.map_append, List.map_cons, List.map_nil]
   · simp only [go_sem, Nat.reduceBEq, Nat.reduceLeDiff, h0, h1, h2, h6, h7, h8, h9, e1]
     refine hn (8 - (j + 1)) _ (by omega) ⟨j + 1, acc, t, D2, i2, _, _, _, _, _, by omega, rfl, ?_, hB2, hD2, hi2, h0, h1, h2, h6, h7, h8, rfl, rfl, ht⟩
     rw [List.take_succ_eq_append_getElem hlt]
     exact hacc.trans (List.sublist_append_left _ _)
 · simp only [go_sem, Nat.reduceBEq, Nat.reduceLeDiff, ]
   refine he _ _ ?_
   exact hQ acc t _ D i _ _ _ _ _ _ (hacc.trans (List.take_sublist _ _)) hB hD hi (by simp [upd_at, h0]) (by simp [upd_at, h1]) (by simp [upd_at, h2]) (by simp [upd_at, h6]) (by simp [upd_at, h8])
end
section
variable {l : List Int} {V : List Var} {ps : List Func}
def clAgg (V : List Var) (tv : Tip) (body : List App) (tb : Tip) : AV := .agg [.sl (V.map eVar) tv, .sl (body.map eApp) tb, .sl [] .nil, .str [], .sl [] .nil]
theorem bodyLoop {B p g i clk g0 g3 n : Nat} {D : List AObj} {ts : Tmps} {o b c x y : AObj} {ks : List Kf} {Q : Post} {tv : Tip} (hl : ChOk l) (hV : V.length ≤ 400) (hN : NumOk l) (hP : PredsOk ps) (hn : n ≤ 2) (hB : D.length = B) (hs : p < B) (hD : D[p]? = some (chObj g l i)) (hi : i ≤ l.length) {q : Bool}
   (h0 : ts 0 = .ptr p g 0 0) (h1 : ts 1 = .sl (ps.map eFunc) .no) (h2 : ts 2 = .bool q) (h6 : ts 6 = .ptr (B + 0) g0 0 0) (h8 : ts 8 = .sl (V.map eVar) tv) (h10 : ts 10 = .ptr (B + 3) g3 0 0) (h11 : ts 11 = .int .i64 (n : Int))
   (hQ : ∀ (acc : List App) (t : Tip) (ts' : Tmps) (D' : List AObj) (i' : Nat) (b c x y : AObj) (clk' : Nat), acc.length ≤ 2 → (∀ a ∈ acc, AppOk ps V a) → D'.length = B → D'[p]? = some (chObj g l i') → i' ≤ l.length → ts' 0 = .ptr p g 0 0 → ts' 1 = .sl (ps.map eFunc) .no → ts' 2 = .bool q → ts' 6 = .ptr (B + 0) g0 0 0 → ts' 8 = .sl (V.map eVar) tv → ts' 10 = .ptr (B + 3) g3 0 0 → K Gam B (.exit 2) ks ⟨ts', D' ++ [o, b, c, .blk g3 [clAgg V tv acc t] false false 0, x, y], clk'⟩ Q) :
   K Gam B (.loop c53_0) ks ⟨ts, D ++ [o, b, c, .blk g3 [clAgg V tv [] .nil] false false 0, x, y], clk⟩ Q := by
 refine K_loop (fun m s => ∃ (n : Nat) (acc : List App) (t : Tip) (D : List AObj) (i : Nat) (b c x y : AObj), m = n ∧ acc.length + n ≤ 2 ∧ (∀ a ∈ acc, AppOk ps V a) ∧ D.length = B ∧ D[p]? = some (chObj g l i) ∧ i ≤ l.length ∧ s.ts 0 = .ptr p g 0 0 ∧ s.ts 1 = .sl (ps.map eFunc) .no ∧ s.ts 2 = .bool q ∧ s.ts 6 = .ptr (B + 0) g0 0 0 ∧ s.ts 8 = .sl (V.map eVar) tv ∧ s.ts 10 = .ptr (B + 3) g3 0 0 ∧ s.ts 11 = .int .i64 (n : Int) ∧ s.h = D ++ [o, b, c, .blk g3 [clAgg V tv acc t] false false 0, x, y] ∧ TipK B 5 y t 2) n ?_ ?_
 · exact ⟨n, [], .nil, D, i, _, _, _, _, rfl, by simpa using hn, by simp, hB, hD, hi, h0, h1, h2, h6, h8, h10, h11, rfl, .inl rfl⟩
 clear h0 h1 h2 h6 h8 h10 h11 hB hD hi
 rintro m ⟨ts, h, clk⟩ P ⟨n, acc, t, D, i, b, c, x, y, rfl, hlen, hacc, hB, hD, hi, h0, h1, h2, h6, h8, h10, h11, rfl, ht⟩ hnx he hr
 dsimp only at h0 h1 h2 h6 h8 h10 h11
 simp only [go_sem, Nat.reduceBEq, Nat.reduceAdd, Nat.reduceLeDiff, Nat.reduceSub, reduceCtorEq, ↓reduceIte, h0, h1, h2, h6, h8, h10, h11, c53_0]
 refine BK_of (fun hb => ?_) (fun hb => ?_)
 · have hpos : 0 < m := by simp at hb; omega
   obtain ⟨n', rfl⟩ : ∃ n', m = n' + 1 := ⟨m - 1, by omega⟩
   have en : IntKind.i64.wrap (((n' + 1 : Nat) : Int) - 1) = (n' : Int) := minus_one (by omega)
   simp only [go_sem, Nat.reduceBEq, Nat.reduceAdd, Nat.reduceLeDiff, Nat.reduceSub, reduceCtorEq, ↓reduceIte, h0, h1, h2, h6, h8, h10, h11, K_draw, hB, clAgg]
   refine CK_gen (gen97 hl hV hN hP) hB hs hD hi ?_
   rintro v D1 i1 ⟨a, rfl, ha⟩ hB1 hD1 hi1
   have happ : acc.map eApp ++ [eApp a] = (acc ++ [a]).map eApp := by simp
   have hbs : ∀ h, bsV h (.agg [.str [], .sl [] .nil]) 1 [0] [eApp a] = some (.sl [eApp a] .full, h) := fun h => bsV1 rfl rfl rfl rfl
   simp only [go_sem, Nat.reduceBEq, Nat.reduceAdd, Nat.reduceLeDiff, Nat.reduceSub, reduceCtorEq, ↓reduceIte, h0, h1, h2, h6, h8, h10, h11, hB1, hbs]
   rw [show [eApp a] = [a].map eApp from rfl, append_loc hB1 rfl ht cells_apps cells_apps (by simp only [List.length_map, List.length_singleton]; omega)]
   simp only [go_sem, Nat.reduceBEq, Nat.reduceAdd, Nat.reduceLeDiff, Nat.reduceSub, reduceCtorEq, ↓reduceIte, h0, h1, h2, h6, h8, h10, h11, hB1, en, happ]
   refine ⟨by simp [drawOk, apart, disjoint, callAt, footAt, AOp.isCall, hB]; omega, ?_⟩
   refine hnx n' _ (by omega) ⟨n', acc ++ [a], _, D1, i1, _, _, _, _, rfl, by simp; omega, ?_, hB1, hD1, hi1, h0, h1, h2, h6, h8, h10, rfl, rfl, .inr (.inr ⟨_, rfl, rfl⟩)⟩
   intro a' ha'
   rw [List.mem_append, List.mem_singleton] at ha'
   rcases ha' with ha' | rfl
   · exact hacc a' ha'
   · exact ha
 · simp only [go_sem, Nat.reduceBEq, Nat.reduceAdd, Nat.reduceLeDiff, Nat.reduceSub, reduceCtorEq, ↓reduceIte, ]
   refine he _ _ ?_
   exact hQ acc t _ D i _ _ _ _ _ (by omega) hacc hB hD hi (by simp [upd_at, h0]) (by simp [upd_at, h1]) (by simp [upd_at, h2]) (by simp [upd_at, h6]) (by simp [upd_at, h8]) (by simp [upd_at, h10])
theorem gen53 {u : Tip} {q : Bool} (hl : ChOk l) (hN : NumOk l) (hP : PredsOk ps) : GenOk l 53 [.sl (ps.map eFunc) u, .bool q] (fun v => ∃ c, v = eClause c ∧ ClauseOk ps c) := by
 refine GenOk.of rfl fn53 rfl rfl rfl (az := [.sl (ps.map eFunc) .no, .bool q]) rfl (by simp [idsL, AV.ids, idsL_map ids_func]) fun D B p g i clk T hB hs hD hi hR => ?_
 simp only [go_sem, Nat.reduceBEq, Nat.reduceAdd, Nat.reduceLeDiff, Nat.reduceSub, reduceCtorEq, ↓reduceIte, af53, hB]
 rw [CK_pure pure96]
 simp only [go_sem, Nat.reduceBEq, Nat.reduceAdd, Nat.reduceLeDiff, Nat.reduceSub, reduceCtorEq, ↓reduceIte, ]
 refine varLoop (q := q) (ps := ps) hl hB hs hD hi rfl rfl rfl rfl rfl rfl rfl ?_
 clear hB hD hi
 intro V tv ts D i b c d x y clk1 hsub hB hD hi h0 h1 h2 h6 h8
 have hV : V.length ≤ 400 := by have := hsub.length_le; simp [allVars] at this; omega
 simp only [go_sem, Nat.reduceBEq, Nat.reduceAdd, Nat.reduceLeDiff, Nat.reduceSub, reduceCtorEq, ↓reduceIte, h0, h1, h2, h6, h8, hB]
 refine CK_gen (gen30 hl (by decide) (by decide)) hB hs hD hi ?_
 clear hB hD hi
 rintro v D i ⟨r, rfl, hr1, hr2⟩ hB hD hi
 obtain ⟨n, rfl⟩ : ∃ k : Nat, r = k := ⟨r.toNat, by omega⟩
 simp only [go_sem, Nat.reduceBEq, Nat.reduceAdd, Nat.reduceLeDiff, Nat.reduceSub, reduceCtorEq, ↓reduceIte, h0, h1, h2, h6, h8, hB]
 refine bodyLoop (g0 := clk) (n := n) (q := q) (V := V) (tv := tv) hl hV hN hP (by omega) hB hs hD hi (by simp [upd_at, h0]) (by simp [upd_at, h1]) (by simp [upd_at, h2]) (by simp [upd_at, h6]) (by simp [upd_at, h8]) rfl rfl ?_
 clear hB hD hi
 intro body tb ts2 D i b2 c2 x2 y2 clk2 hlen hbody hB hD hi q0 q1 q2 q6 q8 q10
 simp only [go_sem, Nat.reduceBEq, Nat.reduceAdd, Nat.reduceLeDiff, Nat.reduceSub, reduceCtorEq, ↓reduceIte, q0, q1, q2, q6, q8, q10, hB, clAgg]
 have hG := GenOk.conv (args' := [nat 3, .sl (V.map eVar) tv]) (guard_all (V := V) hl hV hN 3 (by omega)) rfl fn98 rfl rfl rfl rfl
 refine CK_gen hG hB hs hD hi ?_
 clear hB hD hi
 rintro v D i ⟨gd, rfl, hgd⟩ hB hD hi
 simp only [go_sem, Nat.reduceBEq, Nat.reduceAdd, Nat.reduceLeDiff, Nat.reduceSub, reduceCtorEq, ↓reduceIte, q0, q1, q2, q6, q8, q10, hB, eTerm]
 refine BK_of (fun hc => ?_) (fun hc => ?_)
 · simp only [go_sem, Nat.reduceBEq, Nat.reduceAdd, Nat.reduceLeDiff, Nat.reduceSub, reduceCtorEq, ↓reduceIte, q0, q1, q2, q6, q8, q10, hB]
   refine CK_gen (gen97 hl hV hN hP) hB hs hD hi ?_
   clear hB hD hi
   rintro v D i ⟨a, rfl, ha⟩ hB hD hi
   simp only [go_sem, Nat.reduceBEq, Nat.reduceAdd, Nat.reduceLeDiff, Nat.reduceSub, reduceCtorEq, ↓reduceIte, q0, q1, q2, q6, q8, q10, hB, eApp]
   have hid : (AV.agg [.sl (V.map eVar) tv, .sl (body.map eApp) tb, .sl (gd.map eNode) .no, .str a.pred, .sl (a.args.map eTerm) .no]).cv.ids = [] := ids_clause ⟨V, body, gd, a⟩
   rw [RV_one rfl hid]
   exact hR _ _ i (by rw [out_get hB hs]; exact hD) hi ⟨⟨V, body, gd, a⟩, rfl, hsub, hlen, hbody, hgd, .inr ha⟩
 · simp only [go_sem, Nat.reduceBEq, Nat.reduceAdd, Nat.reduceLeDiff, Nat.reduceSub, reduceCtorEq, ↓reduceIte, q0, q1, q2, q6, q8, q10, hB]
   have hid : (AV.agg [.sl (V.map eVar) tv, .sl (body.map eApp) tb, .sl (gd.map eNode) .no, .str [], .sl [] .nil]).cv.ids = [] := ids_clause ⟨V, body, gd, ⟨[], []⟩⟩
   rw [RV_one rfl hid]
   exact hR _ _ i (by rw [out_get hB hs]; exact hD) hi ⟨⟨V, body, gd, ⟨[], []⟩⟩, rfl, hsub, hlen, hbody, hgd, .inl ⟨rfl, rfl⟩⟩
end
theorem slV_take {h : List AObj} {e n : Nat} {xs : List AV} {t : Tip} {k : IntKind} (hn : n ≤ xs.length) (he : headLen e xs = true) : slV h (some e) (.sl xs t) none (some (.int k (n : Int))) none = some (.sl (xs.take n) (if n = xs.length then (if t = .nil then .nil else t) else .no), h) := by
 simp [slV, sliceVal, bound, hn, he]
theorem new29 {zs : List Int} {u : Tip} {h : List AObj} {clk : Nat} : ∃ k g c, callA Gam k 29 [.sl (ints zs) u] h clk = some (.ptr h.length g 0 0, h ++ [chObj g (zs.take 400) 0], c) := by
 have hw : ∀ (D : List AObj) (B : Nat), D.length = B → K Gam B af29.body [] ⟨entry [.sl (ints zs) .no], D ++ List.replicate af29.nslots .dead, clk⟩ (fun e s => e = .ret ∧ ∃ g, s.ts 2 = .ptr (B + 0) g 0 0 ∧ s.h = D ++ [chObj g (zs.take 400) 0]) := by
   intro D B hB
   have hm : (if (400 : Int) < (zs.length : Int) then (400 : Int) else (zs.length : Int)) = ((min zs.length 400 : Nat) : Int) := by
     split <;> omega
   have hh : headLen 1 (ints zs) = true := by cases zs <;> rfl
   have ht : (ints zs).take (min zs.length 400) = ints (zs.take 400) := by
     rw [ints, ints, ← List.map_take]
     congr 1
     rcases Nat.le_total zs.length 400 with h | h
     · rw [Nat.min_eq_left h, List.take_length, List.take_of_length_le h]
     · rw [Nat.min_eq_right h]
   simp only [go_sem, Nat.reduceBEq, Nat.reduceAdd, Nat.reduceLeDiff, Nat.reduceSub, reduceCtorEq, ↓reduceIte, af29, hB, ints_len, hm, slV_take (xs := ints zs) (n := min zs.length 400) (by rw [ints_len]; omega) hh, ht]
   exact ⟨_, rfl, by simp [chObj]⟩
 obtain ⟨k, e, s, he, rfl, g, hp, hs⟩ := hw (maskFrom [] 0 h) _ rfl
 rw [mask_len] at he hp
 have hpa : passArgs h af29.byref 0 [.sl (ints zs) u] = some [.sl (ints zs) .no] := rfl
 have hl : lentSlots af29.byref 0 [.sl (ints zs) u] = [] := rfl
 have hids : idsL [.sl (ints zs) .no] = [] := by simp [idsL, AV.ids, ids_ints]
 have hres : resultsA s.h s.ts af29.results = some [.ptr (h.length + 0) g 0 0] := by simp only [af29, resultsA, hp, Option.map_some]
 refine ⟨k, g, s.clk, ?_⟩
 unfold callA callWith
 simp only [show Gam.ext 29 = none from rfl, fn29, hpa, hl, freezeAll, hids, reach, he, show af29.owned = false from rfl, Bool.false_eq_true, if_false, hres, oneOf, conv, AV.obs, merge_nil]
 rw [if_neg (by simp [AV.ids])]
 rw [hs, ← mask_len (T := []) (h := h) (k := 0), List.drop_left]
 simp
theorem CK_gen_loc {l : List Int} {f B k g i clk gg : Nat} {args : List AV} {R : AV → Prop} {D L : List AObj} {m : Md} {dst : Option Nat} {os : List AOper} {ts : Tmps} {ks : List Kf} {Q : Post} (hg : GenOk l f args R) (hB : D.length = B) (hL : L[k]? = some (chObj g l i)) (hi : i ≤ l.length)
   (hQ : ∀ v i', R v → i' ≤ l.length → O Gam B (m.add ([B + k], [B + k])) (gg + 1) os ⟨putA ts dst v, D ++ L.set k (chObj g l i'), clk⟩ ks Q) : CK Gam B f (.ptr (B + k) g 0 0 :: args) (D ++ L) clk m dst gg os ts ks Q := by
 unfold CK
 have hD' : (D ++ L)[B + k]? = some (chObj g l i) := by rw [loc_get hB]; exact hL
 obtain ⟨_, hf⟩ := hg (D ++ L) (B + k) g i clk (fun _ _ _ => True) hD' hi (fun _ _ _ _ => trivial)
 refine (hg (D ++ L) (B + k) g i clk _ hD' hi fun v i' hi' hv => ?_).1
 refine O_feet (f' := ([B + k], [B + k])) ?_ ?_ ?_
 · rw [hf]; exact fun x hx => hx
 · rw [hf]; exact fun x hx => (List.mem_filter.1 hx).1
 · rw [loc_set hB]
   exact hQ v i' hv hi'
def allPreds : List Func := [⟨[80], [2], 1⟩, ⟨[81], [2, 2], 1⟩, ⟨[82], [1, 2, 2], 1⟩, ⟨[90], [], 1⟩, ⟨[83], [3, 4], 1⟩]
theorem pure51 : Pure Gam 51 [] (.sl (allPreds.map eFunc) .no) := Pure.tab (tab := tab51) rfl rfl rfl
theorem preds_ok {n : Nat} (h1 : 0 < n) : PredsOk (allPreds.take n) := by
 refine ⟨by simp [allPreds]; omega, by simp [allPreds]; omega, fun f hf => ?_⟩
 have := List.mem_of_mem_take hf
 simp only [allPreds, List.mem_cons, List.not_mem_nil, or_false] at this
 rcases this with rfl | rfl | rfl | rfl | rfl <;> simp
def SysOk (s : Sys) : Prop := (∃ n, 2 ≤ n ∧ n ≤ 5 ∧ s.preds = allPreds.take n) ∧ s.clauses.length ≤ 8 ∧ ∀ c ∈ s.clauses, ClauseOk s.preds c
theorem new_ck {zs : List Int} {u : Tip} {B gg clk : Nat} {D L : List AObj} {m : Md} {dst : Option Nat} {os : List AOper} {ts : Tmps} {ks : List Kf} {Q : Post} (hQ : ∀ g c, O Gam B (m.add (touched (callFoot Gam 29 [.sl (ints zs) u] (D ++ L)) (D ++ L) ((D ++ L) ++ [chObj g (zs.take 400) 0]))) (gg + 1) os ⟨putA ts dst (.ptr (D ++ L).length g 0 0), (D ++ L) ++ [chObj g (zs.take 400) 0], c⟩ ks Q) : CK Gam B 29 [.sl (ints zs) u] (D ++ L) clk m dst gg os ts ks Q := by
 obtain ⟨k, g, c, hk⟩ := new29 (u := u) (h := D ++ L) (clk := clk)
 exact ⟨k, _, _, _, hk, hQ g c⟩
theorem wc26 {zs : List Int} {u : Tip} {h : List AObj} {clk : Nat} {Q : AV → List AObj → Nat → Prop} (hz : ∀ z ∈ zs, -9223372036854775808 ≤ z ∧ z ≤ 9223372036854775807) (hN : NumOk (zs.take 400)) (hQ : ∀ s, SysOk s → Q (eSys s) h clk) : WC Gam 26 [.sl (ints zs) u] h clk Q := by
 have hl : ChOk (zs.take 400) := ⟨by simp; omega, fun z h => hz z (List.mem_of_mem_take h)⟩
 generalize hzs : zs.take 400 = l at hN hl
 refine WC_pure rfl fn26 rfl rfl rfl (az := [.sl (ints zs) .no]) rfl (by simp [idsL, AV.ids, ids_ints]) fun D B T hB hT => ?_
 simp only [go_sem, Nat.reduceBEq, Nat.reduceAdd, Nat.reduceLeDiff, Nat.reduceSub, reduceCtorEq, ↓reduceIte, af26, hB]
 refine new_ck fun g c => ?_
 have e0 : ∀ (x y : AObj), (D ++ [x, y, .dead, .dead]).length = B + 4 := fun x y => by simp [hB]
 have e1 : ∀ (x y o : AObj), (D ++ [x, y, .dead, .dead]) ++ [o] = D ++ [x, y, .dead, .dead, o] := fun x y o => by simp
 rw [e0, e1, hzs]
 simp only [go_sem, Nat.reduceBEq, Nat.reduceAdd, Nat.reduceLeDiff, Nat.reduceSub, reduceCtorEq, ↓reduceIte, hB]
 rw [CK_pure pure51]
 simp only [go_sem, Nat.reduceBEq, Nat.reduceAdd, Nat.reduceLeDiff, Nat.reduceSub, reduceCtorEq, ↓reduceIte, hB]
 refine CK_gen_loc (k := 4) (gen30 hl (by decide) (by decide)) hB rfl (Nat.zero_le _) ?_
 rintro v i ⟨r, rfl, hr1, hr2⟩ hi
 obtain ⟨n, rfl⟩ : ∃ k : Nat, r = k := ⟨r.toNat, by omega⟩
 have e2 : IntKind.i64.wrap (2 + (n : Int)) = ((2 + n : Nat) : Int) := by rw [wrap_i64 (by omega) (by omega)]; omega
 have e3 : (allPreds.map eFunc).take (2 + n) = (allPreds.take (2 + n)).map eFunc := List.map_take.symm
 have hlen5 : (allPreds.map eFunc).length = 5 := rfl
 have e4 : ∀ h, slV h (some 3) (.sl (allPreds.map eFunc) .no) none (some (.int .i64 ((2 + n : Nat) : Int))) none = some (.sl ((allPreds.take (2 + n)).map eFunc) .no, h) := fun h => by
   rw [slV_take (by rw [hlen5]; omega) rfl, e3]; simp
 have hpo := preds_ok (n := 2 + n) (by omega)
 generalize hps : allPreds.take (2 + n) = ps at hpo e4
 simp only [go_sem, Nat.reduceBEq, Nat.reduceAdd, Nat.reduceLeDiff, Nat.reduceSub, reduceCtorEq, ↓reduceIte, hB, e2, e4, Option.map_none]
 refine CK_gen_loc (k := 4) (gen30 hl (by decide) (by decide)) hB rfl hi ?_
 rintro v i2 ⟨r, rfl, hr3, hr4⟩ hi2
 obtain ⟨z, rfl⟩ : ∃ k : Nat, r = k := ⟨r.toNat, by omega⟩
 have e5 : IntKind.i64.wrap (1 + (z : Int)) = ((1 + z : Nat) : Int) := by rw [wrap_i64 (by omega) (by omega)]; omega
 simp only [go_sem, Nat.reduceBEq, Nat.reduceAdd, Nat.reduceLeDiff, Nat.reduceSub, reduceCtorEq, ↓reduceIte, hB, e5]
 refine K_loop (fun m s => ∃ (n : Nat) (acc : List Clause) (t : Tip) (i g0 g1 : Nat) (x y : AObj), m = n ∧ acc.length + n ≤ 8 ∧ (∀ a ∈ acc, ClauseOk ps a) ∧ i ≤ l.length ∧ s.ts 2 = .ptr (B + 0) g0 0 0 ∧ s.ts 3 = .ptr (B + 4) g 0 0 ∧ s.ts 4 = .ptr (B + 1) g1 0 0 ∧ s.ts 5 = .int .i64 (n : Int) ∧
   s.h = D ++ [.blk g0 [.agg [.sl [] .nil, .sl [] .nil]] false false 0, .blk g1 [.agg [.sl (ps.map eFunc) .no, .sl (acc.map eClause) t]] false false 0, x, y, chObj g l i] ∧ TipK B 3 y t 5) (1 + z) ?_ ?_
 · exact ⟨1 + z, [], .nil, i2, _, _, _, _, rfl, by simp; omega, by simp, hi2, rfl, rfl, rfl, rfl, rfl, .inl rfl⟩
 clear e0 e1 hi hi2 e2 e4 e3
 rintro m ⟨ts, h, clk⟩ P ⟨n', acc, t, i, g0, g1, x, y, rfl, hlen, hacc, hi, h2, h3, h4, h5, rfl, ht⟩ hn he hr
 dsimp only at h2 h3 h4 h5
 have fin : ∀ (ts' : Tmps) (i' clk' : Nat), i' ≤ l.length → ts' 2 = .ptr (B + 0) g0 0 0 → ts' 4 = .ptr (B + 1) g1 0 0 → P (.exit 0) ⟨ts', D ++ [.blk g0 [.agg [.sl [] .nil, .sl [] .nil]] false false 0, .blk g1 [.agg [.sl (ps.map eFunc) .no, .sl (acc.map eClause) t]] false false 0, x, y, chObj g l i'], clk'⟩ := by
   intro ts' i' clk' hi' q2 q4
   refine he _ _ ?_
   simp only [go_sem, Nat.reduceBEq, Nat.reduceAdd, Nat.reduceLeDiff, Nat.reduceSub, reduceCtorEq, ↓reduceIte, q2, q4, hB]
   have hid : (AV.agg [.sl (ps.map eFunc) .no, .sl (acc.map eClause) t]).cv.ids = [] := ids_sys ⟨ps, acc⟩
   rw [RV_one rfl hid]
   refine hT _ _ (hQ ⟨ps, acc⟩ ⟨⟨2 + n, by omega, by omega, hps.symm⟩, by simp only; omega, hacc⟩)
 by_cases hm : m = 0
 · have hb : decide (0 < (m : Int)) = false := by rw [decide_eq_false_iff_not]; omega
   simp only [go_sem, Nat.reduceBEq, Nat.reduceAdd, Nat.reduceLeDiff, Nat.reduceSub, reduceCtorEq, ↓reduceIte, h2, h3, h4, h5, hB, c26_0, hb]
   exact fin _ _ _ hi (by simp [upd_at, h2]) (by simp [upd_at, h4])
 · have hb : decide (0 < (m : Int)) = true := by rw [decide_eq_true_iff]; omega
   obtain ⟨n', rfl⟩ : ∃ n', m = n' + 1 := ⟨m - 1, by omega⟩
   have en : IntKind.i64.wrap (((n' + 1 : Nat) : Int) - 1) = (n' : Int) := minus_one (by omega)
   simp only [go_sem, Nat.reduceBEq, Nat.reduceAdd, Nat.reduceLeDiff, Nat.reduceSub, reduceCtorEq, ↓reduceIte, h2, h3, h4, h5, hB, c26_0, hb]
   refine CK_gen_loc (k := 4) gen52 hB rfl hi ?_
   clear hi
   rintro v i ⟨b, rfl⟩ hi
   simp only [go_sem, Nat.reduceBEq, Nat.reduceAdd, Nat.reduceLeDiff, Nat.reduceSub, reduceCtorEq, ↓reduceIte, h2, h3, h4, h5, hB]
   refine BK_of (fun hc => ?_) (fun hc => ?_)
   · simp only [go_sem, Nat.reduceBEq, Nat.reduceAdd, Nat.reduceLeDiff, Nat.reduceSub, reduceCtorEq, ↓reduceIte, h2, h3, h4, h5, hB, K_draw]
     refine CK_gen_loc (k := 4) (gen30 hl (by decide) (by decide)) hB rfl hi ?_
     clear hi
     rintro v i ⟨r, rfl, hr5, hr6⟩ hi
     simp only [go_sem, Nat.reduceBEq, Nat.reduceAdd, Nat.reduceLeDiff, Nat.reduceSub, reduceCtorEq, ↓reduceIte, h2, h3, h4, h5, hB]
     refine CK_gen_loc (k := 4) (gen53 hl hN hpo) hB rfl hi ?_
     clear hi
     rintro v i ⟨c, rfl, hc⟩ hi
     have hbs : ∀ h, bsV h (.agg [.sl [] .nil, .sl [] .nil, .sl [] .nil, .str [], .sl [] .nil]) 1 [0] [eClause c] = some (.sl [eClause c] .full, h) := fun h => bsV1 rfl rfl rfl rfl
     have happ : acc.map eClause ++ [eClause c] = (acc ++ [c]).map eClause := by simp
     simp only [go_sem, Nat.reduceBEq, Nat.reduceAdd, Nat.reduceLeDiff, Nat.reduceSub, reduceCtorEq, ↓reduceIte, h2, h3, h4, h5, hB, hbs]
     rw [show [eClause c] = [c].map eClause from rfl, append_loc hB rfl ht cells_clauses cells_clauses (by simp only [List.length_map, List.length_singleton]; omega)]
     simp only [go_sem, Nat.reduceBEq, Nat.reduceAdd, Nat.reduceLeDiff, Nat.reduceSub, reduceCtorEq, ↓reduceIte, h2, h3, h4, h5, hB, en, happ]
     refine ⟨by simp [drawOk, apart, disjoint, callAt, footAt, AOp.isCall, hB], ?_⟩
     refine hn n' _ (by omega) ⟨n', acc ++ [c], _, i, g0, g1, _, _, rfl, by simp; omega, ?_, hi, h2, h3, h4, rfl, rfl, .inr (.inr ⟨_, rfl, rfl⟩)⟩
     intro a' ha'
     rw [List.mem_append, List.mem_singleton] at ha'
     rcases ha' with ha' | rfl
     · exact hacc a' ha'
     · exact hc
   · simp only [go_sem, Nat.reduceBEq, Nat.reduceAdd, Nat.reduceLeDiff, Nat.reduceSub, reduceCtorEq, ↓reduceIte, h2, h3, h4, h5, hB]
     exact fin _ _ _ hi (by simp [upd_at, h2]) (by simp [upd_at, h4])
end Go.Proofs.YtbeooboebfbchaaGreatDoor.Am
