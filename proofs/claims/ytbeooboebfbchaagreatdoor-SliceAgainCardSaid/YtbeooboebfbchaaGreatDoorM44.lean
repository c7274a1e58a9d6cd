/- Walking: the names of a term (2). Walking: sorts, variables and functions of a term. Walking: terms in a scope. Walking: atoms of a clause are checked. Walking: variables of a clause are checked. Walking: a clause is checked. -/
import Derived.Test.YtbeooboebfbchaaGreatDoorM43
set_option linter.unusedVariables false
set_option linter.unusedSimpArgs false
namespace Go.Proofs.YtbeooboebfbchaaGreatDoor.Am
open Go
set_option maxRecDepth 100000
def viewObj (gV : Nat) (t : Term) (sP gP : Nat) : AObj := .blk gV [.agg [eTerm t, .ob sP gP 0 t.length]] false false 0
def rowObj (gP : Nat) (P : List Pt) : AObj := .blk gP (P.map ePt) true false 0
def ViewS (s sP gV gP : Nat) (t : Term) (P : List Pt) : List (Nat × AObj) := [(s, viewObj gV t sP gP), (sP, rowObj gP P)]
theorem view_cov {s sP gV gP : Nat} {t : Term} {P : List Pt} : Cov (ViewS s sP gV gP t P) [s] := by
 refine Cov.two ?_ ?_
 · simp [viewObj, AObj.ids, idsL, AV.ids, ids_term]
 · simp [rowObj, AObj.ids, idsL_map (f := ePt) fun _ => rfl]
theorem reads244 {s sP gV gP : Nat} {t : Term} {P : List Pt} {p : Pt} (hl : t.length ≤ 20000) (hP : P[0]? = some p) (hd : p.depth ≤ 257) (hPl : P.length = t.length) : Reads (ViewS s sP gV gP t P) 244 [.ptr s gV 0 0] (.bool false) := by
 refine Reads.of rfl fn244 rfl rfl rfl rfl view_cov fun D B clk T hB hS hlt hT => ?_
 have h1 := hlt (s, viewObj gV t sP gP) (by simp [ViewS])
 have h2 := hlt (sP, rowObj gP P) (by simp [ViewS])
 have b1 := blk_at (g := gV) (hS (s, viewObj gV t sP gP) (by simp [ViewS]))
 have b2 := blk_at (g := gP) (hS (sP, rowObj gP P) (by simp [ViewS]))
 dsimp only at h1 h2 b1 b2
 have hpos : 0 < t.length := by
   rw [← hPl]
   rw [List.getElem?_eq_some_iff] at hP
   exact hP.1
 have hg : (P.map ePt)[0]? = some (.agg [.int .i64 (p.sort : Int), .int .i64 (p.depth : Int), .int .i64 (p.fin : Int)]) := part_get hP
 have hix : ∀ L, idxAV (D ++ L) 3 (.ob sP gP 0 t.length) (.int .i64 0) = some (.ptr sP gP 0 0, D ++ L) := fun L => by
   have : blkAt (D ++ L) sP gP = some (P.map ePt, true, false, 0) := by rw [out_blk hB h2, b2]
   simp only [idxAV, Int.le_refl, if_true, this, Int.toNat_zero, Nat.add_zero, hg]
   rw [if_pos ⟨hpos, rfl⟩]
 have e1 : decide ((20000 : Int) < (t.length : Int)) = false := by rw [decide_eq_false_iff_not]; omega
 have e2 : decide ((257 : Int) < (p.depth : Int)) = false := by rw [decide_eq_false_iff_not]; omega
 simp only [go_sem, Nat.reduceBEq, Nat.reduceAdd, ↓reduceIte, af244, out_blk hB h1, b1, out_blk hB h2, b2, eTerm, List.length_map, e1, hix, hg, e2]
 rw [RV_bool]
 exact hT _ hS.app
theorem reads232 {s sP gV gP : Nat} {t : Term} {P : List Pt} {V : List Var} (hl : t.length ≤ 20000) (hn : NamesOk V t) (hV : ∀ v ∈ V, v ∈ allVars) : Reads (ViewS s sP gV gP t P) 232 [.ptr s gV 0 0] (.tup [.sl ((varsOf t []).map eVar) .no, .sl [] .no, .bool true]) := by
 refine Reads.of rfl fn232 rfl rfl rfl rfl view_cov fun D B clk T hB hS hlt hT => ?_
 have h1 := hlt (s, viewObj gV t sP gP) (by simp [ViewS])
 have b1 := blk_at (g := gV) (hS (s, viewObj gV t sP gP) (by simp [ViewS]))
 dsimp only at h1 b1
 simp only [go_sem, Nat.reduceBEq, Nat.reduceAdd, Nat.reduceLeDiff, Nat.reduceSub, reduceCtorEq, ↓reduceIte, af232, hB, out_blk hB h1, b1, eTerm, List.length_map]
 refine K_loop (fun m q => ∃ (i : Nat) (u : Tip) (g0 g1 : Nat) (o2 o3 o4 o5 o6 o7 o8 o9 o10 o11 : AObj), i ≤ t.length ∧ m = t.length - i ∧ q.ts 5 = .mp (B + 0) g0 ∧ q.ts 6 = .mp (B + 1) g1 ∧ q.ts 7 = .sl ((varsOf (t.take i) []).map eVar) u ∧ q.ts 8 = .sl [] .nil ∧ q.ts 25 = .sl (t.map eNode) .no ∧ q.ts 26 = .int .i64 (t.length : Int) ∧ q.ts 27 = .int .i64 (i : Int) ∧ q.h = D ++ [.map g0 (nameMap (varsOf (t.take i) [])), .map g1 [], o2, o3, o4, o5, o6, o7, o8, o9, o10, o11] ∧ TipK B 5 o5 u 2) t.length ⟨0, .nil, _, _, _, _, _, _, _, _, _, _, _, _, by omega, rfl, rfl, rfl, rfl, rfl, rfl, rfl, rfl, rfl, .inl rfl⟩ ?_
 rintro m ⟨ts, h, clk⟩ Pq ⟨i, u, g0, g1, o2, o3, o4, o5, o6, o7, o8, o9, o10, o11, hi, rfl, q5, q6, q7, q8, q25, q26, q27, rfl, hu⟩ hnx he hr
 dsimp only at q5 q6 q7 q8 q25 q26 q27
 have hacc : ∀ v ∈ varsOf (t.take i) [], v ∈ V := varsOf_mem (fun n hn' => hn n (List.mem_of_mem_take hn')) (by simp)
 by_cases hlt' : i < t.length
 · have e1 : decide ((i : Int) < (t.length : Int)) = true := by rw [decide_eq_true_iff]; omega
   have e2 : IntKind.i64.wrap ((i : Int) + 1) = ((i + 1 : Nat) : Int) := wrap_i64 (by omega) (by omega)
   have hti : t[i]? = some t[i] := by simp [hlt']
   obtain ⟨hn5, hn4⟩ := hn _ (List.getElem_mem hlt')
   have htake : t.take (i + 1) = t.take i ++ [t[i]] := List.take_succ_eq_append_getElem hlt'
   generalize t[i] = n at hti hn5 hn4 htake
   have hvo : varsOf (t.take (i + 1)) [] = if n.op = 4 ∧ (⟨n.name, n.sort⟩ : Var) ∉ varsOf (t.take i) [] then varsOf (t.take i) [] ++ [⟨n.name, n.sort⟩] else varsOf (t.take i) [] := by
     rw [htake, varsOf_append]
     simp only [varsOf]
   by_cases h4 : n.op = 4
   · obtain ⟨v, hv, e3, e4⟩ := hn4 h4
     have hfk := findKey_name (hV v hv) (acc := varsOf (t.take i) []) fun w hw => hV w (hacc w hw)
     have hf0 : findKey (.one .str) (.str v.name) [] = some none := rfl
     have f4 : decide ((n.op : Int) = 4) = true := by rw [decide_eq_true_iff]; omega
     have hve : (⟨n.name, n.sort⟩ : Var) = v := by rw [e3, e4]
     rw [hve] at hvo
     by_cases hin : v ∈ varsOf (t.take i) []
     · rw [if_pos hin] at hfk
       rw [if_neg (fun hc => hc.2 hin)] at hvo
       simp only [go_sem, Nat.reduceBEq, Nat.reduceAdd, Nat.reduceLeDiff, Nat.reduceSub, reduceCtorEq, ↓reduceIte, c232_0, q5, q6, q7, q8, q25, q26, q27, hB, e1, node_idx hti, f4, e3, e4, mapOf_mp, lk_str hfk, lk_str hf0, found_some, found_none, eVar, nat, Bool.not_true, decide_true, e2]
       rw [← hvo] at q7 ⊢
       exact hnx (t.length - (i + 1)) _ (by omega) ⟨i + 1, u, g0, g1, _, _, _, _, _, _, _, _, _, _, hlt', rfl, q5, q6, q7, q8, q25, q26, rfl, rfl, hu⟩
     · rw [if_neg hin] at hfk
       rw [if_pos ⟨h4, hin⟩] at hvo
       have hput := putKey_name (hV v hv) (acc := varsOf (t.take i) []) (fun w hw => hV w (hacc w hw)) hin
       have hmu : ∀ L : List AObj, mapAt L 0 g0 = some (nameMap (varsOf (t.take i) [])) → muV (D ++ L) (.one .str) (.str v.name) (.agg [.str v.name, .int .i64 (v.sort : Int)]) (.mp (B + 0) g0) = some (.undef, D ++ L.set 0 (.map g0 (nameMap (varsOf (t.take i) [] ++ [v])))) := fun L hL => mu_loc (v := eVar v) hB hL rfl hput
       have hlen : (varsOf (t.take i) []).length ≤ 20000 := by
         have := varsOf_len (t := t.take i) (acc := [])
         rw [List.length_take] at this
         simp only [List.length_nil] at this
         omega
       simp only [go_sem, Nat.reduceBEq, Nat.reduceAdd, Nat.reduceLeDiff, Nat.reduceSub, reduceCtorEq, ↓reduceIte, c232_0, q5, q6, q7, q8, q25, q26, q27, hB, e1, node_idx hti, f4, e3, e4, mapOf_mp, lk_str hfk, found_none, Bool.not_false, hmu]
       have e8 : (varsOf (t.take i) []).map eVar ++ [AV.agg [AV.str v.name, AV.int .i64 (v.sort : Int)]] = (varsOf (t.take (i + 1)) []).map eVar := by rw [hvo, List.map_append]; rfl
       rw [show [AV.agg [AV.str v.name, AV.int .i64 (v.sort : Int)]] = [v].map eVar from rfl, append_loc hB rfl hu cells_vars cells_vars (by simp only [List.length_map, List.length_singleton]; omega)]
       simp only [go_sem, Nat.reduceBEq, Nat.reduceAdd, Nat.reduceLeDiff, Nat.reduceSub, reduceCtorEq, ↓reduceIte, q5, q6, q7, q8, q25, q26, q27, hB, mapOf_mp, lk_str hf0, found_none, decide_true, Bool.not_true, e2, eVar, nat, e8, ← hvo]
       exact hnx (t.length - (i + 1)) _ (by omega) ⟨i + 1, _, g0, g1, _, _, _, _, _, _, _, _, _, _, hlt', rfl, q5, q6, rfl, q8, q25, q26, rfl, rfl, .inr (.inr ⟨_, rfl, rfl⟩)⟩
   · rw [if_neg (fun hc => h4 hc.1)] at hvo
     have f4 : decide ((n.op : Int) = 4) = false := by rw [decide_eq_false_iff_not]; omega
     have f5 : decide ((n.op : Int) = 5) = false := by rw [decide_eq_false_iff_not]; omega
     simp only [go_sem, Nat.reduceBEq, Nat.reduceAdd, Nat.reduceLeDiff, Nat.reduceSub, reduceCtorEq, ↓reduceIte, c232_0, q5, q6, q7, q8, q25, q26, q27, hB, e1, node_idx hti, f4, f5, e2]
     rw [← hvo] at q7 ⊢
     exact hnx (t.length - (i + 1)) _ (by omega) ⟨i + 1, u, g0, g1, _, _, _, _, _, _, _, _, _, _, hlt', rfl, q5, q6, q7, q8, q25, q26, rfl, rfl, hu⟩
 · have e1 : decide ((i : Int) < (t.length : Int)) = false := by rw [decide_eq_false_iff_not]; omega
   have hti : t.take i = t := List.take_of_length_le (by omega)
   rw [hti] at q7
   simp only [go_sem, Nat.reduceBEq, Nat.reduceAdd, Nat.reduceLeDiff, Nat.reduceSub, reduceCtorEq, ↓reduceIte, c232_0, q5, q6, q7, q8, q25, q26, q27, hB, e1]
   refine he _ _ ?_
   simp only [go_sem, Nat.reduceBEq, Nat.reduceAdd, Nat.reduceLeDiff, Nat.reduceSub, reduceCtorEq, ↓reduceIte, q7, q8]
   rw [RV_some rfl (by simp [oneOf, AV.cv, cvL, AV.ids, idsL, idsL_map (f := eVar) fun _ => rfl])]
   exact hT _ hS.app
theorem view_has {D : List AObj} {B : Nat} {t : Term} {gP gV g2 : Nat} {P : List Pt} {o3 o4 o5 o6 o7 o8 o9 : AObj} (hB : D.length = B) : Has (ViewS (B + 1) (B + 0) gV gP t P) (lookH D B t gP gV g2 P o3 o4 o5 o6 o7 o8 o9) := by
 refine Has.cons ?_ (Has.cons ?_ Has.nil)
 · simp only [lookH, loc_get hB]; rfl
 · simp only [lookH, loc_get hB]; rfl
theorem WF.pos {V : List Var} {s d : Nat} {t : Term} (h : WF V [s] d t) : 0 < t.length := by
 cases h with
 | cons => simp
theorem wc231 {V : List Var} {s d : Nat} {t : Term} {u : Tip} {h : List AObj} {clk : Nat} {Q : AV → List AObj → Nat → Prop} (ht : WF V [s] d t) (hV : ∀ v ∈ V, v ∈ allVars) (hl : t.length ≤ 20000) (hd : d ≤ 257)
   (hQ : ∀ gP gV g2 P dep o3 o4 o5 o6 o7 o8 o9 c, P.length = t.length → P[0]? = some ⟨s, dep, t.length⟩ → dep ≤ d → Q (.tup [.ptr (h.length + 1) gV 0 0, .bool true]) (lookH h h.length t gP gV g2 P o3 o4 o5 o6 o7 o8 o9) c) : WC Gam 231 [.sl (t.map eNode) u] h clk Q := by
 refine WC_grow rfl fn231 rfl rfl rfl (az := [.sl (t.map eNode) .no]) rfl (by simp [idsL, AV.ids, idsL_map ids_node]) fun D B R hB hBh hR => ?_
 have hpos := ht.pos
 have e1 : decide ((t.length : Int) = 0) = false := by rw [decide_eq_false_iff_not]; omega
 have e2 : decide ((20000 : Int) < (t.length : Int)) = false := by rw [decide_eq_false_iff_not]; omega
 simp only [go_sem, Nat.reduceBEq, af231, hB, List.length_map, e1, e2, List.append_nil]
 refine CK_of_WC (wc243 ht hV hl (by omega) fun gP gV g2 P dep o3 o4 o5 o6 o7 o8 o9 c hPl hp hdep => ?_)
 rw [hB]
 have r1 := reads244 (s := B + 1) (sP := B + 0) (gV := gV) (gP := gP) hl hp (by dsimp only; omega) hPl
 have r2 := reads232 (s := B + 1) (sP := B + 0) (gV := gV) (gP := gP) (P := P) hl ht.names hV
 have hh := view_has (t := t) (gP := gP) (gV := gV) (g2 := g2) (P := P) (o3 := o3) (o4 := o4) (o5 := o5) (o6 := o6) (o7 := o7) (o8 := o8) (o9 := o9) hB
 simp only [go_sem, Nat.reduceBEq, Bool.not_true, CK_reads r1 hh, CK_reads r2 hh]
 rw [RVG_some rfl]
 have := fun gP gV g2 c => hQ gP gV g2 P dep o3 o4 o5 o6 o7 o8 o9 c hPl hp hdep
 simp only [← hBh] at this
 exact hR _ _ ⟨B + 1, by simp [oneOf, AV.cv, cvL, AV.ids, idsL], by omega⟩ fun c => this _ _ _ c
theorem pure211 {V : List Var} {s d : Nat} {t : Term} {u : Tip} (ht : WF V [s] d t) (hV : ∀ v ∈ V, v ∈ allVars) (hl : t.length ≤ 20000) (hd : d ≤ 257) : Pure Gam 211 [.sl (t.map eNode) u] (nat s) := by
 refine Pure.of rfl fn211 rfl rfl rfl (az := [.sl (t.map eNode) .no]) rfl (by simp [idsL, AV.ids, idsL_map ids_node]) fun D B clk T hB hT => ?_
 simp only [go_sem, Nat.reduceBEq, Nat.reduceAdd, ↓reduceIte, af211, List.append_nil]
 refine CK_of_WC (wc231 ht hV hl hd fun gP gV g2 P dep o3 o4 o5 o6 o7 o8 o9 c hPl hp hdep => ?_)
 rw [hB]
 have hix : ∀ L, idxAV (D ++ .blk gP (P.map ePt) true false 0 :: L) 3 (.ob (B + 0) gP 0 t.length) (.int .i64 0) = some (.ptr (B + 0) gP 0 0, D ++ .blk gP (P.map ePt) true false 0 :: L) := fun L => part_idx (i := 0) hB hp hPl
 simp only [go_sem, Nat.reduceBEq, Nat.reduceAdd, ↓reduceIte, Bool.not_true, lookH, hB, hix, part_get hp]
 rw [RV_int]
 exact hT _
theorem pure212 {V : List Var} {s d : Nat} {t : Term} {u : Tip} (ht : WF V [s] d t) (hV : ∀ v ∈ V, v ∈ allVars) (hl : t.length ≤ 20000) (hd : d ≤ 257) : Pure Gam 212 [.sl (t.map eNode) u] (.sl [] .no) := by
 refine Pure.of rfl fn212 rfl rfl rfl (az := [.sl (t.map eNode) .no]) rfl (by simp [idsL, AV.ids, idsL_map ids_node]) fun D B clk T hB hT => ?_
 simp only [go_sem, Nat.reduceBEq, af212, List.append_nil]
 refine CK_of_WC (wc231 ht hV hl hd fun gP gV g2 P dep o3 o4 o5 o6 o7 o8 o9 c hPl hp hdep => ?_)
 rw [hB]
 have r2 := reads232 (s := B + 1) (sP := B + 0) (gV := gV) (gP := gP) (P := P) hl ht.names hV
 have hh := view_has (t := t) (gP := gP) (gV := gV) (g2 := g2) (P := P) (o3 := o3) (o4 := o4) (o5 := o5) (o6 := o6) (o7 := o7) (o8 := o8) (o9 := o9) hB
 simp only [go_sem, Nat.reduceBEq, Bool.not_true, CK_reads r2 hh]
 rw [RV_some rfl rfl]
 exact hT _
theorem pure214 {V : List Var} {s d : Nat} {t : Term} {u : Tip} (ht : WF V [s] d t) (hV : ∀ v ∈ V, v ∈ allVars) (hl : t.length ≤ 20000) (hd : d ≤ 257) : Pure Gam 214 [.sl (t.map eNode) u] (.sl ((varsOf t []).map eVar) .no) := by
 refine Pure.of rfl fn214 rfl rfl rfl (az := [.sl (t.map eNode) .no]) rfl (by simp [idsL, AV.ids, idsL_map ids_node]) fun D B clk T hB hT => ?_
 simp only [go_sem, Nat.reduceBEq, af214, List.append_nil]
 refine CK_of_WC (wc231 ht hV hl hd fun gP gV g2 P dep o3 o4 o5 o6 o7 o8 o9 c hPl hp hdep => ?_)
 rw [hB]
 have r2 := reads232 (s := B + 1) (sP := B + 0) (gV := gV) (gP := gP) (P := P) hl ht.names hV
 have hh := view_has (t := t) (gP := gP) (gV := gV) (g2 := g2) (P := P) (o3 := o3) (o4 := o4) (o5 := o5) (o6 := o6) (o7 := o7) (o8 := o8) (o9 := o9) hB
 simp only [go_sem, Nat.reduceBEq, Bool.not_true, CK_reads r2 hh]
 rw [RV_one rfl (by simp [AV.cv, AV.ids, idsL_map (f := eVar) fun _ => rfl])]
 exact hT _
theorem map_at {D : List AObj} {s g : Nat} {es : List (AV × AV)} (h : D[s]? = some (.map g es)) : mapAt D s g = some es := by simp [mapAt, h]
theorem out_map {D L : List AObj} {B s g : Nat} (hB : D.length = B) (h : s < B) : mapAt (D ++ L) s g = mapAt D s g := by
 unfold mapAt
 rw [out_get hB h]
def scopeMap (V : List Var) : List (AV × AV) := V.map fun v => (eVar v, .bool true)
theorem eqv_var {v w : Var} : (eVar v).eqv (.agg [.str, .int]) (eVar w) = some (decide (v = w)) := by
 have : (decide (v.name = w.name) && (decide ((v.sort : Int) = (w.sort : Int)) && true)) = decide (v = w) := by
   rw [Bool.and_true, Bool.eq_iff_iff]
   simp only [Bool.and_eq_true, decide_eq_true_iff]
   constructor
   · rintro ⟨h1, h2⟩
     cases v; cases w
     simp only [Var.mk.injEq] at h1 h2 ⊢
     exact ⟨h1, by omega⟩
   · rintro rfl
     exact ⟨rfl, rfl⟩
 rw [← this]
 rfl
theorem findKey_var {v : Var} : ∀ {V : List Var}, findKey (.agg [.str, .int]) (eVar v) (scopeMap V) = some (if v ∈ V then some (.bool true) else none)
 | [] => rfl
 | w :: V => by
   have ih := findKey_var (v := v) (V := V)
   unfold scopeMap at ih ⊢
   simp only [List.map_cons, findKey, eqv_var]
   by_cases h : v = w
   · subst h
     simp
   · simp only [h, decide_false, ih, List.mem_cons, false_or]
theorem putKey_var {v : Var} : ∀ {V : List Var}, v ∉ V → putKey (.agg [.str, .int]) (eVar v) (.bool true) (scopeMap V) = some (scopeMap (V ++ [v]))
 | [], _ => rfl
 | w :: V, hn => by
   rw [List.mem_cons, not_or] at hn
   have ih := putKey_var (v := v) (V := V) hn.2
   unfold scopeMap at ih ⊢
   simp only [List.map_cons, List.cons_append, putKey, eqv_var, hn.1, decide_false, ih, Option.map_some]
theorem scope_ids {g : Nat} {V : List Var} : (AObj.map g (scopeMap V)).ids = [] := by
 simp only [AObj.ids, scopeMap, List.map_map, List.append_eq_nil_iff]
 constructor
 · have : (Prod.fst ∘ fun v : Var => (eVar v, AV.bool true)) = eVar := rfl
   rw [this]
   exact idsL_map fun _ => rfl
 · exact idsL_map (f := Prod.snd ∘ fun v : Var => (eVar v, AV.bool true)) fun _ => rfl
theorem lk_var {h : List AObj} {z : AV} {v : Var} {V : List Var} : lkV h (.agg [.str, .int]) z false (some (scopeMap V)) (.agg [.str v.name, .int .i64 (v.sort : Int)]) = some (found false z (if v ∈ V then some (.bool true) else none), h) := by
 have h1 : ((eVar v).eqv (.agg [.str, .int]) (eVar v)).isSome = true := by rw [eqv_var]; rfl
 have h2 := findKey_var (v := v) (V := V)
 rw [show eVar v = .agg [.str v.name, .int .i64 (v.sort : Int)] from rfl] at h1 h2
 simp only [lkV, h1, if_true, h2, Option.map_some]
theorem reads215 {s g sX gX : Nat} {v : Var} {V : List Var} : Reads [(s, .blk g [.mp sX gX] false false 0), (sX, .map gX (scopeMap V))] 215 [eVar v, .ptr s g 0 0] (.bool (!decide (v ∈ V))) := by
 refine Reads.of rfl fn215 rfl rfl rfl (az := [eVar v, .ptr s g 0 0]) rfl (Cov.two rfl scope_ids) fun D B clk T hB hS hlt hT => ?_
 have h1 := hlt (s, .blk g [.mp sX gX] false false 0) (by simp)
 have h2 := hlt (sX, .map gX (scopeMap V)) (by simp)
 have b1 := blk_at (g := g) (hS (s, .blk g [.mp sX gX] false false 0) (by simp))
 have b2 := map_at (g := gX) (hS (sX, .map gX (scopeMap V)) (by simp))
 dsimp only at h1 h2 b1 b2
 by_cases hin : v ∈ V
 · simp only [go_sem, Nat.reduceBEq, Nat.reduceLeDiff, af215, hB, eVar, nat, out_blk hB h1, b1, mapOf_mp, out_map hB h2, b2, lk_var, hin, found_someF, Bool.not_true]
   rw [RV_bool]
   simp only [hin, decide_true, Bool.not_true] at hT
   exact hT _ hS.app
 · simp only [go_sem, Nat.reduceBEq, Nat.reduceLeDiff, af215, hB, eVar, nat, out_blk hB h1, b1, mapOf_mp, out_map hB h2, b2, lk_var, hin, found_noneF, Bool.not_false]
   rw [RV_bool]
   simp only [hin, decide_false, Bool.not_false] at hT
   exact hT _ hS.app
theorem Cov.mp1 {s g : Nat} {es : List (AV × AV)} (h : (AObj.map g es).ids = []) : Cov [(s, .map g es)] [s] := Cov.one h
theorem reads175 {sX gX s d : Nat} {V : List Var} {t : Term} {u : Tip} (ht : WF V [s] d t) (hV : ∀ v ∈ V, v ∈ allVars) (hl : t.length ≤ 20000) (hd : d ≤ 257) : Reads [(sX, .map gX (scopeMap V))] 175 [.mp sX gX, .sl (t.map eNode) u, nat s] (.bool true) := by
 refine Reads.of rfl fn175 rfl rfl rfl (az := [.mp sX gX, .sl (t.map eNode) .no, nat s]) rfl (by simpa [idsL, AV.ids, idsL_map ids_node, nat] using Cov.mp1 scope_ids) fun D B clk T hB hS hlt hT => ?_
 have h2 := hlt (sX, .map gX (scopeMap V)) (by simp)
 have p1 := pure211 (u := .no) ht hV hl hd
 have p2 := pure212 (u := .no) ht hV hl hd
 have p3 := pure214 (u := .no) ht hV hl hd
 rw [nat] at p1
 have hvl : (varsOf t []).length ≤ 2 ^ 20 := by
   have := varsOf_len (t := t) (acc := [])
   simp only [List.length_nil] at this
   omega
 have hr : ∀ g, Reads [(B + 0, .blk g [.mp sX gX] false false 0), (sX, .map gX (scopeMap V))] 213 [.sl ((varsOf t []).map eVar) .no, .fn 215 [.ptr (B + 0) g 0 0]] (.bool ((varsOf t []).any fun v => !decide (v ∈ V))) := fun g =>
   reads213 (enc := eVar) (P := fun v => !decide (v ∈ V)) (fun _ => rfl) (fun _ _ => rfl) (fun _ => rfl) hvl (by simpa [idsL, AV.ids] using Cov.two (s := B + 0) (t := sX) rfl scope_ids) fun v _ => reads215
 have e : ((varsOf t []).any fun v => !decide (v ∈ V)) = false := by
   rw [List.any_eq_false]
   intro v hv
   have := varsOf_mem ht.names (acc := []) (by simp) v hv
   simp [this]
 rw [e] at hr
 have hh : ∀ g, Has [(B + 0, .blk g [.mp sX gX] false false 0), (sX, .map gX (scopeMap V))] (D ++ [.blk g [.mp sX gX] false false 0]) := fun g => by
   refine Has.cons ?_ (Has.cons ?_ Has.nil)
   · dsimp only; rw [loc_get hB]; rfl
   · have := hS.app (L := [.blk g [.mp sX gX] false false 0]) (sX, .map gX (scopeMap V)) (by simp)
     exact this
 simp only [go_sem, Nat.reduceBEq, af175, hB, nat, CK_pure p1, decide_true, Bool.not_true, CK_pure p2, Int.reduceLT, decide_false, CK_pure p3]
 rw [CK_reads (hr _) (hh _)]
 simp only [go_sem, Nat.reduceBEq, Bool.not_false]
 rw [RV_bool]
 exact hT _ hS.app
theorem pure170 {s : Nat} (h1 : 1 ≤ s) (h4 : s ≤ 4) : Pure Gam 170 [nat s] (.bool true) := by
 refine Pure.of rfl fn170 rfl rfl rfl rfl rfl fun D B clk T hB hT => ?_
 have e1 : decide ((1 : Int) ≤ (s : Int)) = true := by rw [decide_eq_true_iff]; omega
 have e2 : decide ((s : Int) ≤ 4) = true := by rw [decide_eq_true_iff]; omega
 simp only [go_sem, Nat.reduceBEq, af170, nat, e1, e2]
 rw [RV_bool]
 exact hT _
def predMap : Nat → List Func → List (AV × AV)
 | _, [] => []
 | k, p :: ps => (.str p.name, .int .i64 (k : Int)) :: predMap (k + 1) ps
theorem predMap_len {k : Nat} {ps : List Func} : (predMap k ps).length = ps.length := by
 induction ps generalizing k with
 | nil => rfl
 | cons p ps ih => simp [predMap, ih]
theorem pred_ids {g k : Nat} {ps : List Func} : (AObj.map g (predMap k ps)).ids = [] := by
 simp only [AObj.ids, List.append_eq_nil_iff]
 induction ps generalizing k with
 | nil => exact ⟨rfl, rfl⟩
 | cons p ps ih => exact ⟨by simpa [predMap, idsL, AV.ids] using (ih (k := k + 1)).1, by simpa [predMap, idsL, AV.ids] using (ih (k := k + 1)).2⟩
theorem findKey_pred {a : List Nat} : ∀ {ps : List Func} {k : Nat}, (∀ p ∈ ps, p.name ≠ a) → findKey (.one .str) (.str a) (predMap k ps) = some none
 | [], _, _ => rfl
 | p :: ps, k, h => by
   have hne : decide (a = p.name) = false := decide_eq_false fun e => h p List.mem_cons_self e.symm
   simp only [predMap, findKey, AV.eqv, AV.eq1, hne]
   exact findKey_pred fun q hq => h q (List.mem_cons_of_mem _ hq)
theorem findKey_pred_at : ∀ {ps : List Func} {k j : Nat} {f : Func}, (ps.map (·.name)).Nodup → ps[j]? = some f → findKey (.one .str) (.str f.name) (predMap k ps) = some (some (.int .i64 ((k + j : Nat) : Int)))
 | [], _, _, _, _, h => by simp at h
 | p :: ps, k, 0, f, _, h => by
   simp at h
   subst h
   simp [predMap, findKey, AV.eqv, AV.eq1]
 | p :: ps, k, j + 1, f, hn, h => by
   rw [List.map_cons, List.nodup_cons] at hn
   simp only [List.getElem?_cons_succ] at h
   have hne : decide (f.name = p.name) = false := decide_eq_false fun e => hn.1 (by rw [← e]; exact List.mem_map.2 ⟨f, List.mem_of_getElem? h, rfl⟩)
   simp only [predMap, findKey, AV.eqv, AV.eq1, hne]
   rw [findKey_pred_at hn.2 h, show k + 1 + j = k + (j + 1) by omega]
theorem putKey_pred {a : List Nat} {n : Nat} : ∀ {ps : List Func} {k : Nat} {r : List Nat} {q : Nat}, (∀ p ∈ ps, p.name ≠ a) → n = k + ps.length → putKey (.one .str) (.str a) (.int .i64 (n : Int)) (predMap k ps) = some (predMap k (ps ++ [⟨a, r, q⟩]))
 | [], k, r, q, _, hn => by
   simp at hn
   subst hn
   rfl
 | p :: ps, k, r, q, h, hn => by
   have hne : decide (a = p.name) = false := decide_eq_false fun e => h p List.mem_cons_self e.symm
   have ih := putKey_pred (a := a) (n := n) (ps := ps) (k := k + 1) (r := r) (q := q) (fun q hq => h q (List.mem_cons_of_mem _ hq)) (by simp at hn; omega)
   simp only [List.cons_append, predMap, putKey, AV.eqv, AV.eq1, hne, ih, Option.map_some]
def chkObj (gC : Nat) (s : Sys) (sP gP : Nat) : AObj := .blk gC [.agg [.sl (s.preds.map eFunc) .no, .sl (s.clauses.map eClause) .no, .mp sP gP, .sl [] .nil]] false false 0
def prObj (gP : Nat) (s : Sys) : AObj := .map gP (predMap 0 s.preds)
theorem chk_ids {gC sP gP : Nat} {s : Sys} : (chkObj gC s sP gP).ids = [sP] := by
 simp [chkObj, AObj.ids, idsL, AV.ids, idsL_map ids_func, idsL_map ids_clause]
theorem pr_ids {gP : Nat} {s : Sys} : (prObj gP s).ids = [] := pred_ids
structure PrOk (ps : List Func) : Prop where
 nodup : (ps.map (·.name)).Nodup
 args : ∀ f ∈ ps, f.args.length ≤ 40 ∧ ∀ s ∈ f.args, 1 ≤ s ∧ s ≤ 4
 name : ∀ f ∈ ps, f.name ≠ []
theorem Cov.atom {sC sP sX : Nat} {oC oP oX : AObj} (hC : oC.ids = [sP]) (hP : oP.ids = []) (hX : oX.ids = []) : Cov [(sC, oC), (sP, oP), (sX, oX)] [sC, sX] := by
 refine ⟨by simp, by simp [hC, hP, hX], fun h hS p hp => ?_⟩
 have h1 : h[sC]? = some oC := hS (sC, oC) (by simp)
 have hr : reach h (h.length + 1) [] [sC, sX] = reach h h.length [sC] [sP, sX] := by rw [reach_pop (by simp) h1, hC]; rfl
 rw [hr]
 simp at hp
 rcases hp with rfl | rfl | rfl
 · exact mem_reach (.inl List.mem_cons_self)
 · exact mem_reach (.inr List.mem_cons_self)
 · exact mem_reach (.inr (List.mem_cons_of_mem _ List.mem_cons_self))
theorem reads174 {sC gC sP gP sX gX : Nat} {s : Sys} {a : App} {V : List Var} (hp : PrOk s.preds) (ha : AppOk s.preds V a) (hV : ∀ v ∈ V, v ∈ allVars) : Reads [(sC, chkObj gC s sP gP), (sP, prObj gP s), (sX, .map gX (scopeMap V))] 174 [.ptr sC gC 0 0, eApp a, .mp sX gX] (.bool true) := by
 obtain ⟨f, hf, hname, hlen, hargs⟩ := ha
 obtain ⟨j, hj⟩ := List.getElem?_of_mem hf
 have hjl : j < s.preds.length := by
   rw [List.getElem?_eq_some_iff] at hj
   exact hj.1
 refine Reads.of rfl fn174 rfl rfl rfl (az := [.ptr sC gC 0 0, eApp a, .mp sX gX]) rfl (by simpa [idsL, AV.ids, ids_app] using Cov.atom chk_ids (pr_ids (gP := gP) (s := s)) scope_ids) fun D B clk T hB hS hlt hT => ?_
 have h1 := hlt (sC, chkObj gC s sP gP) (by simp)
 have h2 := hlt (sP, prObj gP s) (by simp)
 have b1 := blk_at (g := gC) (hS (sC, chkObj gC s sP gP) (by simp))
 have b2 := map_at (g := gP) (hS (sP, prObj gP s) (by simp))
 dsimp only at h1 h2 b1 b2
 have hfk := findKey_pred_at (k := 0) hp.nodup hj
 rw [Nat.zero_add, ← hname] at hfk
 have hpl := hp.args f hf
 have hix : ∀ h, idxAV h 3 (.sl (s.preds.map eFunc) .no) (.int .i64 (j : Int)) = some (.iptr [.str f.name, .sl (f.args.map nat) .no, nat f.result] 0, h) := fun h => by
   have h2 : s.preds[j] = f := by
     rw [List.getElem?_eq_some_iff] at hj
     exact hj.2
   rw [idx_func hjl, h2]
 have e1 : decide ((a.args.length : Int) = (f.args.length : Int)) = true := by rw [decide_eq_true_iff]; omega
 simp only [go_sem, Nat.reduceBEq, Nat.reduceAdd, ↓reduceIte, af174, hB, eApp, out_blk hB h1, b1, mapOf_mp, out_map hB h2, b2, lk_str hfk, found_some, Bool.not_true, List.length_map, hix, e1]
 refine K_loop (fun m q => ∃ (i : Nat), i ≤ a.args.length ∧ m = a.args.length - i ∧ q.ts 0 = .ptr sC gC 0 0 ∧ q.ts 2 = .mp sX gX ∧ q.ts 7 = .int .i64 (j : Int) ∧ q.ts 40 = .sl (a.args.map eTerm) .no ∧ q.ts 41 = .int .i64 (a.args.length : Int) ∧ q.ts 42 = .int .i64 (i : Int) ∧ ∃ o, q.h = D ++ [o]) a.args.length ⟨0, by omega, rfl, rfl, rfl, by simp [upd_at], rfl, rfl, rfl, _, rfl⟩ ?_
 rintro m ⟨ts, h, clk⟩ Pq ⟨i, hi, rfl, q0, q2, q7, q40, q41, q42, o, rfl⟩ hnx he hr
 dsimp only at q0 q2 q7 q40 q41 q42
 by_cases hlt' : i < a.args.length
 · have f1 : decide ((i : Int) < (a.args.length : Int)) = true := by rw [decide_eq_true_iff]; omega
   have f2 : IntKind.i64.wrap ((i : Int) + 1) = ((i + 1 : Nat) : Int) := wrap_i64 (by omega) (by omega)
   have hia : i < f.args.length := by omega
   have hix2 : ∀ h, idxAV h 1 (.sl (f.args.map nat) .no) (.int .i64 (i : Int)) = some (.iptr [.int .i64 (f.args[i] : Int)] 0, h) := fun h => idx_nat hia
   have hz : (f.args[i], a.args[i]) ∈ f.args.zip a.args := by
     have : (f.args.zip a.args)[i]? = some (f.args[i], a.args[i]) := by simp [List.getElem?_zip_eq_some, hia, hlt']
     exact List.mem_of_getElem? this
   obtain ⟨hwf, hsz, hs1, hs4⟩ := hargs _ hz
   dsimp only at hwf hsz hs1 hs4
   have p1 := pure170 hs1 hs4
   have p2 := reads175 (sX := sX) (gX := gX) (u := .no) hwf hV (by omega) (by omega)
   rw [nat] at p1 p2
   have hix3 : ∀ h, idxAV h 1 (.sl (a.args.map eTerm) .no) (.int .i64 (i : Int)) = some (.iptr [.sl (a.args[i].map eNode) .no] 0, h) := fun h => idx_term hlt'
   have hh : Has [(sX, .map gX (scopeMap V))] (D ++ [o]) := fun p hp' => hS.app p (by simp at hp'; subst hp'; simp)
   simp only [go_sem, Nat.reduceBEq, Nat.reduceAdd, ↓reduceIte, c174_0, q0, q2, q7, q40, q41, q42, f1, hB, hix3, out_blk hB h1, b1, hix, hix2, CK_pure p1, Bool.not_true, CK_reads p2 hh, f2]
   exact hnx (a.args.length - (i + 1)) _ (by omega) ⟨i + 1, hlt', rfl, q0, q2, q7, q40, q41, rfl, o, rfl⟩
 · have f1 : decide ((i : Int) < (a.args.length : Int)) = false := by rw [decide_eq_false_iff_not]; omega
   simp only [go_sem, Nat.reduceBEq, Nat.reduceAdd, ↓reduceIte, c174_0, q0, q2, q7, q40, q41, q42, f1]
   refine he _ _ ?_
   simp only [go_sem, Nat.reduceBEq, Nat.reduceAdd, ↓reduceIte, ]
   rw [RV_bool]
   exact hT _ hS.app
def nameSet (l : List (List Nat)) : List (AV × AV) := l.map fun a => (.str a, .bool true)
theorem findKey_set {a : List Nat} : ∀ {l : List (List Nat)}, findKey (.one .str) (.str a) (nameSet l) = some (if a ∈ l then some (.bool true) else none)
 | [] => rfl
 | b :: l => by
   have ih := findKey_set (a := a) (l := l)
   unfold nameSet at ih ⊢
   simp only [List.map_cons, findKey, AV.eqv, AV.eq1]
   by_cases h : a = b
   · subst h
     simp
   · simp only [h, decide_false, ih, List.mem_cons, false_or]
theorem putKey_set {a : List Nat} : ∀ {l : List (List Nat)}, a ∉ l → putKey (.one .str) (.str a) (.bool true) (nameSet l) = some (nameSet (l ++ [a]))
 | [], _ => rfl
 | b :: l, hn => by
   rw [List.mem_cons, not_or] at hn
   have ih := putKey_set (a := a) (l := l) hn.2
   unfold nameSet at ih ⊢
   simp only [List.map_cons, List.cons_append, putKey, AV.eqv, AV.eq1, hn.1, decide_false, ih, Option.map_some]
theorem set_ids {g : Nat} {l : List (List Nat)} : (AObj.map g (nameSet l)).ids = [] := by
 simp only [AObj.ids, nameSet, List.map_map, List.append_eq_nil_iff]
 constructor
 · exact idsL_map (f := Prod.fst ∘ fun a : List Nat => (AV.str a, AV.bool true)) fun _ => rfl
 · exact idsL_map (f := Prod.snd ∘ fun a : List Nat => (AV.str a, AV.bool true)) fun _ => rfl
theorem lk_set {h : List AObj} {z : AV} {a : List Nat} {l : List (List Nat)} : lkV h (.one .str) z false (some (nameSet l)) (.str a) = some (found false z (if a ∈ l then some (.bool true) else none), h) := lk_strF findKey_set
theorem reads172 {sC gC sP gP : Nat} {s : Sys} {V : List Var} {u : Tip} (hp : ∀ p ∈ s.preds, ∀ v ∈ allVars, p.name ≠ v.name) (hs : V.Sublist allVars) : Reads [(sC, chkObj gC s sP gP), (sP, prObj gP s)] 172 [.ptr sC gC 0 0, .sl (V.map eVar) u] (.bool true) := by
 have hV : ∀ v ∈ V, v ∈ allVars := fun v hv => hs.mem hv
 have hnd : V.Nodup := hs.nodup (by decide)
 have hVl : V.length ≤ 8 := hs.length_le
 refine Reads.of rfl fn172 rfl rfl rfl (az := [.ptr sC gC 0 0, .sl (V.map eVar) .no]) rfl (by simpa [idsL, AV.ids, idsL_map ids_var] using Cov.two chk_ids (pr_ids (gP := gP) (s := s))) fun D B clk T hB hS hlt hT => ?_
 have h1 := hlt (sC, chkObj gC s sP gP) (by simp)
 have h2 := hlt (sP, prObj gP s) (by simp)
 have b1 := blk_at (g := gC) (hS (sC, chkObj gC s sP gP) (by simp))
 have b2 := map_at (g := gP) (hS (sP, prObj gP s) (by simp))
 dsimp only at h1 h2 b1 b2
 simp only [go_sem, Nat.reduceBEq, Nat.reduceAdd, Nat.reduceLeDiff, Nat.reduceSub, reduceCtorEq, ↓reduceIte, af172, hB, List.length_map]
 refine K_loop (fun m q => ∃ (i g : Nat) (o : AObj), i ≤ V.length ∧ m = V.length - i ∧ q.ts 0 = .ptr sC gC 0 0 ∧ q.ts 5 = .mp (B + 0) g ∧ q.ts 11 = .sl (V.map eVar) .no ∧ q.ts 12 = .int .i64 (V.length : Int) ∧ q.ts 13 = .int .i64 (i : Int) ∧ q.h = D ++ [.map g (nameSet ((V.take i).map (·.name))), o]) V.length ⟨0, _, _, by omega, rfl, rfl, rfl, rfl, rfl, rfl, rfl⟩ ?_
 rintro m ⟨ts, h, clk⟩ Pq ⟨i, g, o, hi, rfl, q0, q5, q11, q12, q13, rfl⟩ hnx he hr
 dsimp only at q0 q5 q11 q12 q13
 by_cases hlt' : i < V.length
 · have f1 : decide ((i : Int) < (V.length : Int)) = true := by rw [decide_eq_true_iff]; omega
   have f2 : IntKind.i64.wrap ((i : Int) + 1) = ((i + 1 : Nat) : Int) := wrap_i64 (by omega) (by omega)
   have hv := List.getElem_mem hlt'
   have hix : ∀ h, idxAV h 2 (.sl (V.map eVar) .no) (.int .i64 (i : Int)) = some (.iptr [.str V[i].name, .int .i64 (V[i].sort : Int)] 0, h) := fun h => idx_map hlt' rfl rfl
   have htake : V.take (i + 1) = V.take i ++ [V[i]] := List.take_succ_eq_append_getElem hlt'
   have hnew : V[i].name ∉ (V.take i).map (·.name) := by
     intro hc
     obtain ⟨w, hw, e⟩ := List.mem_map.1 hc
     have : w = V[i] := var_name (hV w (List.mem_of_mem_take hw)) (hV _ hv) e
     subst this
     have h3 : (V.take (i + 1)).Nodup := hnd.sublist (List.take_sublist _ _)
     rw [htake, List.nodup_append] at h3
     exact h3.2.2 _ hw _ (by simp) rfl
   have hsort := sort_var (hV _ hv)
   have p1 := pure167 (hV _ hv)
   have p2 := pure170 hsort.1 hsort.2
   rw [nat] at p2
   have hnm : nameSet ((V.take (i + 1)).map (·.name)) = nameSet ((V.take i).map (·.name) ++ [V[i].name]) := by rw [htake, List.map_append]; rfl
   have hfp := findKey_pred (a := V[i].name) (k := 0) (ps := s.preds) fun p hp' e => hp p hp' _ (hV _ hv) e
   generalize V[i] = v at *
   have hmu : ∀ L : List AObj, mapAt L 0 g = some (nameSet ((V.take i).map (·.name))) → muV (D ++ L) (.one .str) (.str v.name) (.bool true) (.mp (B + 0) g) = some (.undef, D ++ L.set 0 (.map g (nameSet ((V.take (i + 1)).map (·.name))))) := fun L hL => by
     rw [hnm]
     exact mu_loc (v := .bool true) hB hL rfl (putKey_set hnew)
   simp only [go_sem, Nat.reduceBEq, Nat.reduceAdd, Nat.reduceLeDiff, Nat.reduceSub, reduceCtorEq, ↓reduceIte, c172_0, q0, q5, q11, q12, q13, f1, hB, hix, out_blk hB h1, b1, mapOf_mp, out_map hB h2, b2, lk_str hfp, found_none, lk_set, hnew, found_noneF, CK_pure p1, Bool.not_true, CK_pure p2, hmu, f2]
   exact hnx (V.length - (i + 1)) _ (by omega) ⟨i + 1, g, _, hlt', rfl, q0, q5, q11, q12, rfl, rfl⟩
 · have f1 : decide ((i : Int) < (V.length : Int)) = false := by rw [decide_eq_false_iff_not]; omega
   simp only [go_sem, Nat.reduceBEq, Nat.reduceAdd, Nat.reduceLeDiff, Nat.reduceSub, reduceCtorEq, ↓reduceIte, c172_0, q0, q5, q11, q12, q13, f1]
   refine he _ _ ?_
   simp only [go_sem, Nat.reduceBEq, Nat.reduceAdd, Nat.reduceLeDiff, Nat.reduceSub, reduceCtorEq, ↓reduceIte, ]
   rw [RV_bool]
   exact hT _ hS.app
theorem wc171 {V : List Var} {u : Tip} {h : List AObj} {clk : Nat} {Q : AV → List AObj → Nat → Prop} (hs : V.Sublist allVars) (hQ : ∀ g o c, Q (.mp h.length g) (h ++ [.map g (scopeMap V), o]) c) : WC Gam 171 [.sl (V.map eVar) u] h clk Q := by
 have hnd : V.Nodup := hs.nodup (by decide)
 have hVl : V.length ≤ 8 := hs.length_le
 refine WC_grow rfl fn171 rfl rfl rfl (az := [.sl (V.map eVar) .no]) rfl (by simp [idsL, AV.ids, idsL_map ids_var]) fun D B R hB hBh hR => ?_
 simp only [go_sem, Nat.reduceBEq, Nat.reduceAdd, Nat.reduceLeDiff, Nat.reduceSub, reduceCtorEq, ↓reduceIte, af171, hB, List.length_map]
 refine K_loop (fun m q => ∃ (i g : Nat) (o : AObj), i ≤ V.length ∧ m = V.length - i ∧ q.ts 3 = .mp (B + 0) g ∧ q.ts 7 = .sl (V.map eVar) .no ∧ q.ts 8 = .int .i64 (V.length : Int) ∧ q.ts 9 = .int .i64 (i : Int) ∧ q.h = D ++ [.map g (scopeMap (V.take i)), o]) V.length ⟨0, _, _, by omega, rfl, rfl, rfl, rfl, rfl, rfl⟩ ?_
 rintro m ⟨ts, h, clk⟩ Pq ⟨i, g, o, hi, rfl, q3, q7, q8, q9, rfl⟩ hnx he hr
 dsimp only at q3 q7 q8 q9
 by_cases hlt' : i < V.length
 · have f1 : decide ((i : Int) < (V.length : Int)) = true := by rw [decide_eq_true_iff]; omega
   have f2 : IntKind.i64.wrap ((i : Int) + 1) = ((i + 1 : Nat) : Int) := wrap_i64 (by omega) (by omega)
   have hix : ∀ h, idxAV h 2 (.sl (V.map eVar) .no) (.int .i64 (i : Int)) = some (.iptr [.str V[i].name, .int .i64 (V[i].sort : Int)] 0, h) := fun h => idx_map hlt' rfl rfl
   have htake : V.take (i + 1) = V.take i ++ [V[i]] := List.take_succ_eq_append_getElem hlt'
   have hnew : V[i] ∉ V.take i := by
     intro hc
     have h3 : (V.take (i + 1)).Nodup := hnd.sublist (List.take_sublist _ _)
     rw [htake, List.nodup_append] at h3
     exact h3.2.2 _ hc _ (by simp) rfl
   generalize V[i] = v at *
   have hput := putKey_var hnew
   have hmu : ∀ L : List AObj, mapAt L 0 g = some (scopeMap (V.take i)) → muV (D ++ L) (.agg [.str, .int]) (.agg [.str v.name, .int .i64 (v.sort : Int)]) (.bool true) (.mp (B + 0) g) = some (.undef, D ++ L.set 0 (.map g (scopeMap (V.take (i + 1))))) := fun L hL => by
     have hpub : pub (D ++ L) (.bool true) = some (.bool true, D ++ L) := rfl
     have he : ((AV.agg [.str v.name, .int .i64 (v.sort : Int)]).eqv (.agg [.str, .int]) (.agg [.str v.name, .int .i64 (v.sort : Int)])).isSome = true := by
       have := eqv_var (v := v) (w := v)
       rw [show eVar v = .agg [.str v.name, .int .i64 (v.sort : Int)] from rfl] at this
       rw [this]
       rfl
     have hput' : putKey (.agg [.str, .int]) (.agg [.str v.name, .int .i64 (v.sort : Int)]) (.bool true) (scopeMap (V.take i)) = some (scopeMap (V.take (i + 1))) := by rw [htake]; exact hput
     simp only [muV, loc_map hB, hL, hpub, he, if_true, hput', Option.map_some, loc_set hB]
   simp only [go_sem, Nat.reduceBEq, Nat.reduceAdd, Nat.reduceLeDiff, Nat.reduceSub, reduceCtorEq, ↓reduceIte, c171_0, q3, q7, q8, q9, f1, hB, hix, hmu, f2]
   exact hnx (V.length - (i + 1)) _ (by omega) ⟨i + 1, g, _, hlt', rfl, q3, q7, q8, rfl, rfl⟩
 · have f1 : decide ((i : Int) < (V.length : Int)) = false := by rw [decide_eq_false_iff_not]; omega
   have hti : V.take i = V := List.take_of_length_le (by omega)
   simp only [go_sem, Nat.reduceBEq, Nat.reduceAdd, Nat.reduceLeDiff, Nat.reduceSub, reduceCtorEq, ↓reduceIte, c171_0, q3, q7, q8, q9, f1]
   refine he _ _ ?_
   simp only [go_sem, Nat.reduceBEq, Nat.reduceAdd, Nat.reduceLeDiff, Nat.reduceSub, reduceCtorEq, ↓reduceIte, q3]
   rw [RVG_some rfl, hti]
   refine hR _ _ ⟨B + 0, by simp [oneOf, AV.cv, AV.ids], by omega⟩ fun c => ?_
   have := hQ g o c
   rw [← hBh] at this
   exact this
mutual
theorem beq_refl : ∀ (a : AV), a.beq a = true
 | .undef => rfl
 | .int _ _ => by simp [AV.beq]
 | .bool _ => by simp [AV.beq]
 | .str _ => by simp [AV.beq]
 | .agg cs => by simp [AV.beq, beqL_refl cs]
 | .tup cs => by simp [AV.beq, beqL_refl cs]
 | .sl cs _ => by simp [AV.beq, beqL_refl cs]
 | .ob .. => by simp [AV.beq]
 | .ptr .. => by simp [AV.beq]
 | .iptr cs _ => by simp [AV.beq, beqL_refl cs]
 | .nilptr => rfl
 | .mp .. => by simp [AV.beq]
 | .nilmap => rfl
 | .fn _ cs => by simp [AV.beq, beqL_refl cs]
 | .nilfn => rfl
 | .nilif => rfl
 | .bwd _ x => by simp [AV.beq, beq_refl x]
theorem beqL_refl : ∀ (l : List AV), beqL l l = true
 | [] => rfl
 | a :: l => by simp [beqL, beq_refl a, beqL_refl l]
end
theorem beqP_refl : ∀ (l : List (AV × AV)), beqP l l = true
 | [] => rfl
 | a :: l => by simp [beqP, beq_refl, beqP_refl l]
theorem obj_refl : ∀ (o : AObj), o.beq o = true
 | .dead => rfl
 | .blk .. => by simp [AObj.beq, beqL_refl]
 | .tip .. => by simp [AObj.beq]
 | .map .. => by simp [AObj.beq, beqP_refl]
theorem touched_self {F : List Nat} {h : List AObj} : touched F h h = (F, []) := by
 unfold touched
 simp [obj_refl]
theorem CK_readsD {f base gg clk : Nat} {args : List AV} {S : List (Nat × AObj)} {h : List AObj} {v : AV} {m : Md} {dst : Option Nat} {os : List AOper} {ts : Tmps} {ks : List Kf} {Q : Post} (hr : Reads S f args v) (hh : Has S h)
   (hO : O Gam base (m.add (S.map (·.1), [])) (gg + 1) os ⟨putA ts dst v, h, clk⟩ ks Q) : CK Gam base f args h clk m dst gg os ts ks Q := by
 obtain ⟨⟨k, hk⟩, hF⟩ := hr h clk hh
 refine ⟨k, v, h, clk, hk, ?_⟩
 dsimp only
 rw [touched_self]
 exact O_feet hF (by simp) hO
theorem reads121 {sC gC sP gP : Nat} {s : Sys} {w k : Int} : Reads [(sC, chkObj gC s sP gP), (sP, prObj gP s)] 121 [.ptr sC gC 0 0, .bool false, .int .i64 w, .int .i64 k] (.tup []) := by
 refine Reads.of rfl fn121 rfl rfl rfl (az := [.ptr sC gC 0 0, .bool false, .int .i64 w, .int .i64 k]) rfl (by simpa [idsL, AV.ids] using Cov.two chk_ids (pr_ids (gP := gP) (s := s))) fun D B clk T hB hS hlt hT => ?_
 simp only [go_sem, Nat.reduceBEq, af121]
 rw [RV_some rfl rfl]
 exact hT _ hS.app
theorem Cov.five {s2 sC sP s5 sX g2 gC gP g5 gX : Nat} {s : Sys} {V : List Var} (h1 : sC < sP) (h2 : sP < s2) (h3 : s2 < s5) (h4 : s5 < sX) : Cov [(s2, .blk g2 [.ptr sC gC 0 0] false false 0), (sC, chkObj gC s sP gP), (sP, prObj gP s), (s5, .blk g5 [.mp sX gX] false false 0), (sX, .map gX (scopeMap V))] [s2, s5] := by
 have i2 : (AObj.blk g2 [.ptr sC gC 0 0] false false 0).ids = [sC] := rfl
 have i5 : (AObj.blk g5 [.mp sX gX] false false 0).ids = [sX] := rfl
 refine ⟨by simp, by simp [i2, i5, chk_ids, pr_ids, scope_ids], fun h hS p hp => ?_⟩
 have a2 : h[s2]? = some (.blk g2 [.ptr sC gC 0 0] false false 0) := hS (s2, _) (by simp)
 have aC : h[sC]? = some (chkObj gC s sP gP) := hS (sC, chkObj gC s sP gP) (by simp)
 have aP : h[sP]? = some (prObj gP s) := hS (sP, prObj gP s) (by simp)
 have a5 : h[s5]? = some (.blk g5 [.mp sX gX] false false 0) := hS (s5, _) (by simp)
 have hX := hS.lt (sX, _) (List.mem_cons_of_mem _ (List.mem_cons_of_mem _ (List.mem_cons_of_mem _ (List.mem_cons_of_mem _ List.mem_cons_self))))
 dsimp only at hX
 obtain ⟨m, hm⟩ : ∃ m, h.length = m + 4 := ⟨h.length - 4, by omega⟩
 have hr : reach h (h.length + 1) [] [s2, s5] = reach h (m + 1) [s5, sP, sC, s2] [sX] := by
   rw [hm, reach_pop (by simp) a2, i2]
   rw [List.singleton_append, reach_pop (by simp; omega) aC, chk_ids]
   rw [List.singleton_append, reach_pop (by simp; omega) aP, pr_ids]
   rw [List.nil_append, reach_pop (by simp; omega) a5, i5]
   rfl
 rw [hr]
 simp at hp
 rcases hp with rfl | rfl | rfl | rfl | rfl <;> exact mem_reach (by simp)
theorem reads173 {s2 sC sP s5 sX g2 gC gP g5 gX : Nat} {s : Sys} {a : App} {V : List Var} (hp : PrOk s.preds) (ha : AppOk s.preds V a) (hV : ∀ v ∈ V, v ∈ allVars) (h1 : sC < sP) (h2 : sP < s2) (h3 : s2 < s5) (h4 : s5 < sX) :
   Reads [(s2, .blk g2 [.ptr sC gC 0 0] false false 0), (sC, chkObj gC s sP gP), (sP, prObj gP s), (s5, .blk g5 [.mp sX gX] false false 0), (sX, .map gX (scopeMap V))] 173 [eApp a, .ptr s2 g2 0 0, .ptr s5 g5 0 0] (.bool false) := by
 refine Reads.of rfl fn173 rfl rfl rfl (az := [eApp a, .ptr s2 g2 0 0, .ptr s5 g5 0 0]) rfl (by simpa [idsL, AV.ids, ids_app] using Cov.five h1 h2 h3 h4) fun D B clk T hB hS hlt hT => ?_
 have l2 := hlt (s2, .blk g2 [.ptr sC gC 0 0] false false 0) (by simp)
 have l5 := hlt (s5, .blk g5 [.mp sX gX] false false 0) (by simp)
 have b2 := blk_at (g := g2) (hS (s2, .blk g2 [.ptr sC gC 0 0] false false 0) (by simp))
 have b5 := blk_at (g := g5) (hS (s5, .blk g5 [.mp sX gX] false false 0) (by simp))
 dsimp only at l2 l5 b2 b5
 have hr := reads174 (sC := sC) (gC := gC) (sP := sP) (gP := gP) (sX := sX) (gX := gX) hp ha hV
 have hh : ∀ L, Has [(sC, chkObj gC s sP gP), (sP, prObj gP s), (sX, .map gX (scopeMap V))] (D ++ L) := fun L p hp' => hS.app p (by simp at hp'; rcases hp' with rfl | rfl | rfl <;> simp)
 rw [eApp] at hr
 simp only [go_sem, Nat.reduceBEq, Nat.reduceLeDiff, af173, hB, eApp, out_blk hB l2, b2, out_blk hB l5, b5, CK_reads hr (hh _), Bool.not_true]
 rw [RV_bool]
 exact hT _ hS.app
end Go.Proofs.YtbeooboebfbchaaGreatDoor.Am
