/- Walking: the transformation is applied. A sliced system needs no slicing. Walking: SliceAgain. -/
import Derived.Test.YtbeooboebfbchaaGreatDoorM47
set_option linter.unusedVariables false
set_option linter.unusedSimpArgs false
namespace Go.Proofs.YtbeooboebfbchaaGreatDoor.Am
open Go
set_option maxRecDepth 100000
def keepP (x : Tf) (ps : List Func) : List Func := ps.filter fun f => !(decide (f.name ∈ x.un) || decide (f.name ∈ x.und))
def keepCs (x : Tf) (cs : List Clause) : List Clause := cs.filter fun c => decide (keepC x.un x.und c = some true)
def applied (x : Tf) (s : Sys) : Sys := ⟨keepP x s.preds, keepCs x s.clauses⟩
theorem keptF_spec {un und : List (List Nat)} : ∀ {cs pre kc : List Clause} {out res : List Nat}, (out.map fun i => (pre ++ cs)[i]?) = kc.map some → keptF un und cs pre.length out = some res → (res.map fun i => (pre ++ cs)[i]?) = (kc ++ cs.filter fun c => decide (keepC un und c = some true)).map some
 | [], pre, kc, out, res, h, hk => by
   simp only [keptF] at hk
   injection hk with hk
   subst hk
   simpa using h
 | c :: cs, pre, kc, out, res, h, hk => by
   have e : pre ++ c :: cs = (pre ++ [c]) ++ cs := by simp
   have hl : (pre ++ [c]).length = pre.length + 1 := by simp
   rw [keptF] at hk
   cases hc : keepC un und c with
   | none => rw [hc] at hk; cases hk
   | some b =>
     rw [hc] at hk
     rw [e] at h ⊢
     cases b with
     | true =>
       dsimp only at hk
       rw [← hl] at hk
       have := keptF_spec (kc := kc ++ [c]) (by rw [List.map_append, List.map_append, h]; congr 1; simp) hk
       rw [this]
       simp [List.filter_cons, hc]
     | false =>
       dsimp only at hk
       rw [← hl] at hk
       have := keptF_spec (kc := kc) h hk
       rw [this]
       simp [List.filter_cons, hc]
theorem keptF_at {x : Tf} {cs : List Clause} {out : List Nat} (h : keptF x.un x.und cs 0 [] = some out) : (out.map fun i => cs[i]?) = (keepCs x cs).map some := by
 have := keptF_spec (un := x.un) (und := x.und) (cs := cs) (pre := []) (kc := []) (out := []) (res := out) rfl h
 simpa [keepCs] using this
structure SmallC (c : Clause) : Prop where
 body : c.body.length ≤ 2 ^ 20
 bargs : ∀ a ∈ c.body, a.args.length ≤ 2 ^ 20 ∧ ∀ t ∈ a.args, t.length ≤ 2 ^ 20
 hargs : c.head.args.length ≤ 2 ^ 20 ∧ ∀ t ∈ c.head.args, t.length ≤ 2 ^ 20
 vars : c.vars.length ≤ 2 ^ 20
 guard : c.guard.length ≤ 2 ^ 20
theorem appPreds {ps : List Func} {x : Tf} {B clk g0 gx gr g8 : Nat} {D : List AObj} {v6 s0 rr : AV} {o4 o5 o6 o7 o8 : AObj} {ts : Tmps} {ks : List Kf} {Q : Post} (hB : D.length = B) (hpl : ps.length ≤ 1000) (hx : TfOk x) (h2 : ts 2 = .ptr (B + 0) g0 0 0) (h3 : ts 3 = .ptr (B + 1) gx 0 0) (h4 : ts 4 = .ptr (B + 2) gr 0 0) (h6 : ts 6 = v6) (h8 : ts 8 = .ptr (B + 3) g8 0 0) (h25 : ts 25 = .sl (ps.map eFunc) .no) (h26 : ts 26 = .int .i64 (ps.length : Int)) (h27 : ts 27 = .int .i64 0)
   (hQ : ∀ (ts' : Tmps) (t : Tip) (o4 o5 o6 o7 o8 : AObj) (clk' : Nat), ts' 2 = .ptr (B + 0) g0 0 0 → ts' 3 = .ptr (B + 1) gx 0 0 → ts' 4 = .ptr (B + 2) gr 0 0 → ts' 6 = v6 → ts' 8 = .ptr (B + 3) g8 0 0 → K Gam B (.exit 0) ks ⟨ts', D ++ [.blk g0 [s0] false false 0, .blk gx [eTf x] false false 0, .blk gr [rr] false false 0, .blk g8 [.agg [.sl ((keepP x ps).map eFunc) t, .sl [] .nil]] false false 0, o4, o5, o6, o7, o8], clk'⟩ Q) :
   K Gam B (.loop c24_1) ks ⟨ts, D ++ [.blk g0 [s0] false false 0, .blk gx [eTf x] false false 0, .blk gr [rr] false false 0, .blk g8 [.agg [.sl [] .nil, .sl [] .nil]] false false 0, o4, o5, o6, o7, o8], clk⟩ Q := by
 refine K_loop (fun m q => ∃ (i : Nat) (t : Tip) (o4 o5 o6 o7 o8 : AObj), i ≤ ps.length ∧ m = ps.length - i ∧ q.ts 2 = .ptr (B + 0) g0 0 0 ∧ q.ts 3 = .ptr (B + 1) gx 0 0 ∧ q.ts 4 = .ptr (B + 2) gr 0 0 ∧ q.ts 6 = v6 ∧ q.ts 8 = .ptr (B + 3) g8 0 0 ∧ q.ts 25 = .sl (ps.map eFunc) .no ∧ q.ts 26 = .int .i64 (ps.length : Int) ∧ q.ts 27 = .int .i64 (i : Int) ∧ q.h = D ++ [.blk g0 [s0] false false 0, .blk gx [eTf x] false false 0, .blk gr [rr] false false 0, .blk g8 [.agg [.sl ((keepP x (ps.take i)).map eFunc) t, .sl [] .nil]] false false 0, o4, o5, o6, o7, o8] ∧ TipK B 6 o6 t 3) ps.length ⟨0, .nil, o4, o5, o6, o7, o8, by omega, rfl, h2, h3, h4, h6, h8, h25, h26, h27, rfl, .inl rfl⟩ ?_
 clear h2 h3 h4 h6 h8 h25 h26 h27
 rintro m ⟨ts, h, clk⟩ P ⟨i, t, o4, o5, o6, o7, o8, hi, rfl, q2, q3, q4, q6, q8, q25, q26, q27, rfl, ht⟩ hnx he hr
 dsimp only at q2 q3 q4 q6 q8 q25 q26 q27
 by_cases hlt : i < ps.length
 · have f1 : decide ((i : Int) < (ps.length : Int)) = true := by rw [decide_eq_true_iff]; omega
   have f2 : IntKind.i64.wrap ((i : Int) + 1) = ((i + 1 : Nat) : Int) := wrap_i64 (by omega) (by omega)
   have hix := fun h => func_idx (l := ps) (i := i) (h := h) (t := .no) (k := .i64) hlt
   have hkp : keepP x (ps.take (i + 1)) = keepP x (ps.take i) ++ (if (decide (ps[i].name ∈ x.un) || decide (ps[i].name ∈ x.und)) = true then [] else [ps[i]]) := by
     unfold keepP
     rw [List.take_succ_eq_append_getElem hlt, List.filter_append]
     congr 1
     cases hb : (decide (ps[i].name ∈ x.un) || decide (ps[i].name ∈ x.und)) <;> simp only [List.filter_cons, List.filter_nil, hb, Bool.not_false, Bool.not_true, if_true, Bool.false_eq_true, if_false]
   have hkl : (keepP x (ps.take i)).length ≤ 1000 := by
     have := List.length_filter_le (fun f : Func => !(decide (f.name ∈ x.un) || decide (f.name ∈ x.und))) (ps.take i)
     rw [List.length_take] at this
     unfold keepP
     omega
   generalize ps[i] = f at *
   have p1 := pure49 (x := x) (a := f.name) hx
   rw [eTf] at p1
   cases hb : (decide (f.name ∈ x.un) || decide (f.name ∈ x.und)) with
   | true =>
     rw [hb] at p1
     rw [hb, if_pos rfl, List.append_nil] at hkp
     simp only [go_sem, Nat.reduceBEq, Nat.reduceAdd, Nat.reduceLeDiff, Nat.reduceSub, reduceCtorEq, ↓reduceIte, c24_1, q2, q3, q4, q6, q8, q25, q26, q27, hB, f1, hix, eTf, CK_pure p1, Bool.not_true, f2]
     rw [← hkp]
     exact hnx (ps.length - (i + 1)) _ (by omega) ⟨i + 1, t, _, _, _, _, _, hlt, rfl, q2, q3, q4, q6, q8, q25, q26, rfl, rfl, ht⟩
   | false =>
     rw [hb] at p1
     rw [hb, if_neg (by simp)] at hkp
     have e8 : (keepP x (ps.take i)).map eFunc ++ [f].map eFunc = (keepP x (ps.take (i + 1))).map eFunc := by rw [hkp, List.map_append]
     simp only [go_sem, Nat.reduceBEq, Nat.reduceAdd, Nat.reduceLeDiff, Nat.reduceSub, reduceCtorEq, ↓reduceIte, c24_1, q2, q3, q4, q6, q8, q25, q26, q27, hB, f1, hix, eTf, CK_pure p1, Bool.not_false]
     rw [show [AV.agg [.str f.name, .sl (f.args.map nat) .no, .int .i64 (f.result : Int)]] = [f].map eFunc from rfl, append_loc hB rfl ht cells_funcs cells_funcs (by simp only [List.length_map, List.length_singleton]; omega), e8]
     simp only [go_sem, Nat.reduceBEq, Nat.reduceAdd, Nat.reduceLeDiff, Nat.reduceSub, reduceCtorEq, ↓reduceIte, q2, q3, q4, q6, q8, q25, q26, q27, hB, f2]
     exact hnx (ps.length - (i + 1)) _ (by omega) ⟨i + 1, _, _, _, _, _, _, hlt, rfl, q2, q3, q4, q6, q8, q25, q26, rfl, rfl, .inr (.inr ⟨_, rfl, rfl⟩)⟩
 · have f1 : decide ((i : Int) < (ps.length : Int)) = false := by rw [decide_eq_false_iff_not]; omega
   have hti : ps.take i = ps := List.take_of_length_le (by omega)
   simp only [go_sem, Nat.reduceBEq, Nat.reduceAdd, Nat.reduceLeDiff, Nat.reduceSub, reduceCtorEq, ↓reduceIte, c24_1, q2, q3, q4, q6, q8, q25, q26, q27, f1]
   refine he _ _ ?_
   rw [hti]
   exact hQ _ t _ _ _ _ _ _ (by simp [upd_at, q2]) (by simp [upd_at, q3]) (by simp [upd_at, q4]) (by simp [upd_at, q6]) (by simp [upd_at, q8])
theorem appClauses {cs kc : List Clause} {out : List Nat} {pv : List AV} {tp : Tip} {B clk g0 g8 gr : Nat} {D : List AObj} {pp rr : AV} {o1 o4 o5 o6 o7 o8 : AObj} {ts : Tmps} {ks : List Kf} {Q : Post} (hB : D.length = B) (hcl : out.length ≤ 2 ^ 18) (hat : (out.map fun i => cs[i]?) = kc.map some) (hbl : ∀ c ∈ cs, SmallC c) (h2 : ts 2 = .ptr (B + 0) g0 0 0) (h4 : ts 4 = .ptr (B + 2) gr 0 0) (h8 : ts 8 = .ptr (B + 3) g8 0 0) (h43 : ts 43 = .sl (out.map nat) .no) (h44 : ts 44 = .int .i64 (out.length : Int)) (h45 : ts 45 = .int .i64 0)
   (hQ : ∀ (ts' : Tmps) (t : Tip) (o4 o5 o6 o7 o8 : AObj) (clk' : Nat), ts' 4 = .ptr (B + 2) gr 0 0 → ts' 8 = .ptr (B + 3) g8 0 0 → K Gam B (.exit 2) ks ⟨ts', D ++ [.blk g0 [.agg [pp, .sl (cs.map eClause) .no]] false false 0, o1, .blk gr [rr] false false 0, .blk g8 [.agg [.sl pv tp, .sl (kc.map eClause) t]] false false 0, o4, o5, o6, o7, o8], clk'⟩ Q) :
   K Gam B (.loop c24_0) ks ⟨ts, D ++ [.blk g0 [.agg [pp, .sl (cs.map eClause) .no]] false false 0, o1, .blk gr [rr] false false 0, .blk g8 [.agg [.sl pv tp, .sl [] .nil]] false false 0, o4, o5, o6, o7, o8], clk⟩ Q := by
 have hlen : out.length = kc.length := by simpa using congrArg List.length hat
 refine K_loop (fun m q => ∃ (i : Nat) (t : Tip) (o4 o5 o6 o7 o8 : AObj), i ≤ out.length ∧ m = out.length - i ∧ q.ts 2 = .ptr (B + 0) g0 0 0 ∧ q.ts 4 = .ptr (B + 2) gr 0 0 ∧ q.ts 8 = .ptr (B + 3) g8 0 0 ∧ q.ts 43 = .sl (out.map nat) .no ∧ q.ts 44 = .int .i64 (out.length : Int) ∧ q.ts 45 = .int .i64 (i : Int) ∧ q.h = D ++ [.blk g0 [.agg [pp, .sl (cs.map eClause) .no]] false false 0, o1, .blk gr [rr] false false 0, .blk g8 [.agg [.sl pv tp, .sl ((kc.take i).map eClause) t]] false false 0, o4, o5, o6, o7, o8] ∧ TipK B 8 o8 t 5) out.length ⟨0, .nil, o4, o5, o6, o7, o8, by omega, rfl, h2, h4, h8, h43, h44, h45, rfl, .inl rfl⟩ ?_
 clear h2 h4 h8 h43 h44 h45
 rintro m ⟨ts, h, clk⟩ P ⟨i, t, o4, o5, o6, o7, o8, hi, rfl, q2, q4, q8, q43, q44, q45, rfl, ht⟩ hnx he hr
 dsimp only at q2 q4 q8 q43 q44 q45
 by_cases hlt : i < out.length
 · have f1 : decide ((i : Int) < (out.length : Int)) = true := by rw [decide_eq_true_iff]; omega
   have f2 : IntKind.i64.wrap ((i : Int) + 1) = ((i + 1 : Nat) : Int) := wrap_i64 (by omega) (by omega)
   have hki : i < kc.length := by omega
   have hci : cs[out[i]]? = some kc[i] := by
     have := congrArg (fun l => l[i]?) hat
     simpa [hlt, hki] using this
   have hol : out[i] < cs.length := by
     rw [List.getElem?_eq_some_iff] at hci
     exact hci.1
   have hce : cs[out[i]] = kc[i] := by
     rw [List.getElem?_eq_some_iff] at hci
     exact hci.2
   have hix1 : ∀ h, idxAV h 1 (.sl (out.map nat) .no) (.int .i64 (i : Int)) = some (.iptr [.int .i64 (out[i] : Int)] 0, h) := fun h => idx_map hlt rfl rfl
   have hix2 := fun h => clause_idx (l := cs) (i := out[i]) (h := h) (t := .no) (k := .i64) hol
   rw [hce] at hix2
   have e8 : (kc.take i).map eClause ++ [kc[i]].map eClause = (kc.take (i + 1)).map eClause := by rw [List.take_succ_eq_append_getElem hki, List.map_append]
   have hb := hbl _ (List.mem_of_getElem? hci)
   have hp := pure39 (c := kc[i]) hb.body hb.bargs hb.hargs hb.vars hb.guard
   rw [eClause, eTerm] at hp
   generalize out[i] = j at *
   generalize kc[i] = c at *
   simp only [go_sem, Nat.reduceBEq, Nat.reduceAdd, Nat.reduceLeDiff, Nat.reduceSub, reduceCtorEq, ↓reduceIte, c24_0, q2, q4, q8, q43, q44, q45, hB, K_draw, f1, hix1, hix2, CK_pure hp]
   rw [show [AV.agg [.sl (c.vars.map eVar) .no, .sl (c.body.map eApp) .no, .sl (c.guard.map eNode) .no, .str c.head.pred, .sl (c.head.args.map eTerm) .no]] = [c].map eClause from rfl, append_loc hB rfl ht cells_clauses cells_clauses (by simp only [List.length_map, List.length_singleton, List.length_take]; omega), e8]
   simp only [go_sem, Nat.reduceBEq, Nat.reduceAdd, Nat.reduceLeDiff, Nat.reduceSub, reduceCtorEq, ↓reduceIte, q2, q4, q8, q43, q44, q45, hB, f2]
   refine ⟨by simp [drawOk, apart, disjoint, callAt, footAt, AOp.isCall, hB, AV.ids, idsL, idsL_map ids_term, idsL_map ids_var, idsL_map ids_app, idsL_map ids_node, idsL_map ids_clause], ?_⟩
   exact hnx (out.length - (i + 1)) _ (by omega) ⟨i + 1, _, _, _, _, _, _, hlt, rfl, q2, q4, q8, q43, q44, rfl, rfl, .inr (.inr ⟨_, rfl, rfl⟩)⟩
 · have f1 : decide ((i : Int) < (out.length : Int)) = false := by rw [decide_eq_false_iff_not]; omega
   have hti : kc.take i = kc := List.take_of_length_le (by omega)
   simp only [go_sem, Nat.reduceBEq, Nat.reduceAdd, Nat.reduceLeDiff, Nat.reduceSub, reduceCtorEq, ↓reduceIte, c24_0, q2, q4, q8, q43, q44, q45, f1]
   refine he _ _ ?_
   rw [hti]
   exact hQ _ t _ _ _ _ _ _ (by simp [upd_at, q4]) (by simp [upd_at, q8])
theorem keptF_len {un und : List (List Nat)} : ∀ {cs : List Clause} {i : Nat} {out res : List Nat}, keptF un und cs i out = some res → res.length ≤ out.length + cs.length
 | [], i, out, res, h => by
   simp only [keptF] at h
   injection h with h
   subst h
   simp
 | c :: cs, i, out, res, h => by
   rw [keptF] at h
   cases hc : keepC un und c with
   | none => rw [hc] at h; cases h
   | some b =>
     rw [hc] at h
     cases b with
     | true =>
       have := keptF_len h
       simp at this ⊢
       omega
     | false =>
       have := keptF_len h
       simp at this ⊢
       omega
theorem AppOk.len {ps : List Func} {V : List Var} {a : App} (h : AppOk ps V a) (hp : PrOk ps) : a.args.length ≤ 2 ^ 20 ∧ ∀ t ∈ a.args, t.length ≤ 2 ^ 20 := by
 obtain ⟨f, hf, _, hl, hz⟩ := h
 have h40 := (hp.args f hf).1
 refine ⟨by omega, fun t ht => ?_⟩
 obtain ⟨i, hi, rfl⟩ := List.getElem_of_mem ht
 have hif : i < f.args.length := by omega
 have hm : (f.args[i], a.args[i]) ∈ f.args.zip a.args := by
   have : (f.args.zip a.args)[i]? = some (f.args[i], a.args[i]) := by simp [List.getElem?_zip_eq_some, hif, hi]
   exact List.mem_of_getElem? this
 have := (hz _ hm).2.1
 dsimp only at this
 omega
theorem SysV.sizes {s : Sys} (hs : SysV s) : ∀ c ∈ s.clauses, SmallC c := fun c hc => by
 obtain ⟨hv, hb, hba, hg, hh⟩ := hs.clauses c hc
 refine ⟨by omega, fun a ha => (hba a ha).len hs.pr, ?_, by have : c.vars.length ≤ 8 := hv.length_le; omega, by have := hg.2.1; omega⟩
 rcases hh with ⟨_, h⟩ | h
 · rw [h]; simp
 · exact h.len hs.pr
theorem pure24 {s : Sys} {x : Tf} {out : List Nat} (hs : SysV s) (hx : TfOk x) (hk : x.kind = 2) (h1 : x.pred = []) (h2 : x.into = []) (h3 : x.clause = 0) (h4 : x.atom = 0) (h7 : x.drops = []) (hnd : (x.un ++ x.und).Nodup) (hin : ∀ a ∈ x.un ++ x.und, a ∈ s.preds.map (·.name)) (hl : (x.un ++ x.und).length ≤ 2 ^ 18) (hkept : keptF x.un x.und s.clauses 0 [] = some out) : Pure Gam 24 [eSys s, eTf x] (.tup [eSys (applied x s), .int .i64 0]) := by
 have hp := pure48 hs hx hk h1 h2 h3 h4 h7 hnd hin hl hkept
 have hpl : s.preds.length ≤ 5 := hs.preds.length_le
 have hcl := hs.len
 have hol := keptF_len hkept
 simp only [List.length_nil] at hol
 have hp38 := pure38 (ps := s.preds) (u := .no) (by omega) fun f hf => by have := (hs.pr.args f hf).1; omega
 rw [eSys, eTf] at hp
 refine Pure.of rfl fn24 rfl rfl rfl (az := [eSys s, eTf x]) rfl (by simp [idsL, ids_sys, ids_tf hx]) fun D B clk T hB hT => ?_
 simp only [go_sem, Nat.reduceBEq, Nat.reduceAdd, Nat.reduceLeDiff, Nat.reduceSub, reduceCtorEq, ↓reduceIte, af24, hB, eSys, eTf, CK_pure hp, Int.reduceEq, decide_true, Bool.not_true, CK_pure hp38, List.length_map]
 refine appPreds (ps := s.preds) (x := x) (g0 := clk) (gx := clk + 1) (gr := clk + 2) (v6 := .sl (out.map nat) .no) hB (by omega) hx (by simp [upd_at]) (by simp [upd_at]) (by simp [upd_at]) (by simp [upd_at]) (by simp [upd_at]) (by simp [upd_at]) (by simp [upd_at]) (by simp [upd_at]) fun ts1 t1 o4 o5 o6 o7 o8 clk1 r2 r3 r4 r6 r8 => ?_
 simp only [go_sem, Nat.reduceBEq, Nat.reduceAdd, Nat.reduceLeDiff, Nat.reduceSub, reduceCtorEq, ↓reduceIte, r6, List.length_map]
 refine appClauses (cs := s.clauses) (kc := keepCs x s.clauses) (out := out) (g0 := clk) (gr := clk + 2) hB (by omega) (keptF_at hkept) hs.sizes (by simp [upd_at, r2]) (by simp [upd_at, r4]) (by simp [upd_at, r8]) (by simp [upd_at]) (by simp [upd_at]) (by simp [upd_at]) fun ts2 t2 o4 o5 o6 o7 o8 clk2 q4 q8 => ?_
 simp only [go_sem, Nat.reduceBEq, Nat.reduceAdd, Nat.reduceLeDiff, Nat.reduceSub, reduceCtorEq, ↓reduceIte, q4, q8, hB, res_cell, resC_ptr, rconsO_some]
 rw [RV_some rfl (by simp [oneOf, AV.cv, cvL, AV.ids, idsL, idsL_map ids_func, idsL_map ids_clause])]
 exact hT _
section
variable {s : Sys}
abbrev DS (s : Sys) : List Nat → Prop := Der s.clauses
abbrev NS (s : Sys) : List Nat → Prop := Need s.clauses (Der s.clauses)
def names (s : Sys) : List (List Nat) := s.preds.map (·.name)
open Classical in
theorem mem_un {a : List Nat} : a ∈ (findT s).un ↔ a ∈ names s ∧ DS s a ∧ ¬ NS s a := by
 simp [findT, names, List.mem_filter]
open Classical in
theorem mem_und {a : List Nat} : a ∈ (findT s).und ↔ a ∈ names s ∧ ¬ DS s a := by
 simp [findT, names, List.mem_filter]
theorem AppOk.name {ps : List Func} {V : List Var} {a : App} (h : AppOk ps V a) : a.pred ∈ ps.map (·.name) := by
 obtain ⟨f, hf, hn, _⟩ := h
 rw [hn]
 exact List.mem_map.2 ⟨f, hf, rfl⟩
theorem SysV.body (hs : SysV s) {c : Clause} (hc : c ∈ s.clauses) {a : App} (ha : a ∈ c.body) : a.pred ∈ names s := ((hs.clauses c hc).2.2.1 a ha).name
theorem SysV.head (hs : SysV s) {c : Clause} (hc : c ∈ s.clauses) : c.head.pred = [] ∨ c.head.pred ∈ names s := by
 obtain ⟨_, _, _, _, hh⟩ := hs.clauses c hc
 rcases hh with ⟨h, _⟩ | h
 · exact .inl h
 · exact .inr h.name
theorem SysV.name_ne (hs : SysV s) {a : List Nat} (ha : a ∈ names s) : a ≠ [] := by
 obtain ⟨f, hf, rfl⟩ := List.mem_map.1 ha
 exact hs.pr.name f hf
theorem Need.name (hs : SysV s) {a : List Nat} (h : NS s a) : a ∈ names s := by
 cases h with
 | query hc _ _ ha => exact hs.body hc ha
 | of hc _ _ ha => exact hs.body hc ha
theorem findT_nodup (hs : SysV s) : ((findT s).un ++ (findT s).und).Nodup := by
 have hn := hs.pr.nodup
 rw [List.nodup_append]
 refine ⟨?_, ?_, ?_⟩
 · unfold findT; exact hn.sublist List.filter_sublist
 · unfold findT; exact hn.sublist List.filter_sublist
 · rintro a ha b hb rfl
   exact (mem_und.1 hb).2 (mem_un.1 ha).2.1
theorem findT_in : ∀ a ∈ (findT s).un ++ (findT s).und, a ∈ s.preds.map (·.name) := fun a ha => by
 rw [List.mem_append] at ha
 rcases ha with ha | ha
 · exact (mem_un.1 ha).1
 · exact (mem_und.1 ha).1
theorem findT_len (hs : SysV s) : ((findT s).un ++ (findT s).und).length ≤ 10 := by
 have h1 : (findT s).un.length ≤ s.preds.length := by
   unfold findT
   exact Nat.le_trans (List.length_filter_le _ _) (by rw [List.length_map]; exact Nat.le_refl _)
 have h2 : (findT s).und.length ≤ s.preds.length := by
   unfold findT
   exact Nat.le_trans (List.length_filter_le _ _) (by rw [List.length_map]; exact Nat.le_refl _)
 have h3 : s.preds.length ≤ 5 := hs.preds.length_le
 rw [List.length_append]
 omega
theorem keep_iff (hs : SysV s) {c : Clause} (hc : c ∈ s.clauses) : keepC (findT s).un (findT s).und c = some true ↔ (c.head.pred = [] ∨ (DS s c.head.pred ∧ NS s c.head.pred)) ∧ ∀ a ∈ c.body, DS s a.pred ∧ NS s a.pred := by
 have hb : ∀ a ∈ c.body, a.pred ∈ names s := fun a ha => hs.body hc ha
 constructor
 · intro h
   unfold keepC at h
   split at h
   · cases h
   · rename_i h1
     split at h
     · cases h
     · rename_i h2
       split at h
       · cases h
       · rename_i h3
         rw [not_or] at h2
         simp only [List.any_eq_true, decide_eq_true_eq, not_exists, not_and] at h2 h3
         have hbody : ∀ a ∈ c.body, DS s a.pred ∧ NS s a.pred := fun a ha => by
           have hd : DS s a.pred := Classical.byContradiction fun hn => h2.2 a ha (mem_und.2 ⟨hb a ha, hn⟩)
           exact ⟨hd, Classical.byContradiction fun hn => h3 a ha (mem_un.2 ⟨hb a ha, hd, hn⟩)⟩
         refine ⟨?_, hbody⟩
         rcases hs.head hc with hh | hh
         · exact .inl hh
         · right
           have hd : DS s c.head.pred := Classical.byContradiction fun hn => h2.1 (List.mem_append_right _ (mem_und.2 ⟨hh, hn⟩))
           exact ⟨hd, Classical.byContradiction fun hn => h2.1 (List.mem_append_left _ (mem_un.2 ⟨hh, hd, hn⟩))⟩
 · rintro ⟨hh, hbody⟩
   have h1 : c.head.pred ∉ (findT s).und := fun h => by
     rcases hh with hh | hh
     · exact hs.name_ne (mem_und.1 h).1 hh
     · exact (mem_und.1 h).2 hh.1
   have h2 : c.head.pred ∉ (findT s).un := fun h => by
     rcases hh with hh | hh
     · exact hs.name_ne (mem_un.1 h).1 hh
     · exact (mem_un.1 h).2.2 hh.2
   have h3 : (c.body.any fun a => decide (a.pred ∈ (findT s).und)) = false := by
     rw [List.any_eq_false]
     intro a ha
     simp only [decide_eq_true_eq]
     exact fun h => (mem_und.1 h).2 (hbody a ha).1
   have h4 : (c.body.any fun a => decide (a.pred ∈ (findT s).un)) = false := by
     rw [List.any_eq_false]
     intro a ha
     simp only [decide_eq_true_eq]
     exact fun h => (mem_un.1 h).2.2 (hbody a ha).2
   unfold keepC
   rw [if_neg (fun h => h1 h.1), if_neg, if_neg (by rw [h4]; simp)]
   rintro (h | h)
   · rw [List.mem_append] at h
     exact h.elim h2 h1
   · rw [h3] at h; cases h
theorem keep_some (hs : SysV s) {c : Clause} (hc : c ∈ s.clauses) : keepC (findT s).un (findT s).und c ≠ none := by
 have hb : ∀ a ∈ c.body, a.pred ∈ names s := fun a ha => hs.body hc ha
 intro h
 unfold keepC at h
 split at h
 · rename_i h1
   rw [List.any_eq_false] at h1
   simp only [decide_eq_true_eq] at h1
   refine (mem_und.1 h1.1).2 (.of hc (hs.name_ne (mem_und.1 h1.1).1) fun a ha => Classical.byContradiction fun hn => h1.2 a ha (mem_und.2 ⟨hb a ha, hn⟩))
 · split at h
   · cases h
   · rename_i h1 h2
     split at h
     · rename_i h3
       rw [not_or] at h2
       simp only [List.any_eq_true, decide_eq_true_eq, not_exists, not_and] at h2 h3
       obtain ⟨a, ha, hu⟩ := h3
       have hd : ∀ a ∈ c.body, DS s a.pred := fun a ha => Classical.byContradiction fun hn => h2.2 a ha (mem_und.2 ⟨hb a ha, hn⟩)
       refine (mem_un.1 hu).2.2 ?_
       rcases hs.head hc with hh | hh
       · exact .query hc hh hd ha
       · have hdh : DS s c.head.pred := .of hc (hs.name_ne hh) hd
         exact .of hc (Classical.byContradiction fun hn => h2.1 (List.mem_append_left _ (mem_un.2 ⟨hh, hdh, hn⟩))) hd ha
     · cases h
theorem kept_some {un und : List (List Nat)} : ∀ {cs : List Clause} {i : Nat} {out : List Nat}, (∀ c ∈ cs, keepC un und c ≠ none) → ∃ res, keptF un und cs i out = some res
 | [], _, _, _ => ⟨_, rfl⟩
 | c :: cs, i, out, h => by
   have h1 := h c List.mem_cons_self
   have h2 := fun d hd => h d (List.mem_cons_of_mem _ hd)
   rw [keptF]
   cases hc : keepC un und c with
   | none => exact absurd hc h1
   | some b =>
     cases b with
     | true => exact kept_some h2
     | false => exact kept_some h2
theorem mem_keep (hs : SysV s) {c : Clause} : c ∈ (applied (findT s) s).clauses ↔ c ∈ s.clauses ∧ (c.head.pred = [] ∨ (DS s c.head.pred ∧ NS s c.head.pred)) ∧ ∀ a ∈ c.body, DS s a.pred ∧ NS s a.pred := by
 simp only [applied, keepCs, List.mem_filter, decide_eq_true_eq]
 constructor
 · rintro ⟨h1, h2⟩; exact ⟨h1, (keep_iff hs h1).1 h2⟩
 · rintro ⟨h1, h2⟩; exact ⟨h1, (keep_iff hs h1).2 h2⟩
theorem mem_keepP {f : Func} : f ∈ (applied (findT s) s).preds ↔ f ∈ s.preds ∧ DS s f.name ∧ NS s f.name := by
 simp only [applied, keepP, List.mem_filter, Bool.not_eq_true', Bool.or_eq_false_iff, decide_eq_false_iff_not]
 constructor
 · rintro ⟨h1, h2, h3⟩
   have hn : f.name ∈ names s := List.mem_map.2 ⟨f, h1, rfl⟩
   have hd : DS s f.name := Classical.byContradiction fun h => h3 (mem_und.2 ⟨hn, h⟩)
   exact ⟨h1, hd, Classical.byContradiction fun h => h2 (mem_un.2 ⟨hn, hd, h⟩)⟩
 · rintro ⟨h1, h2, h3⟩
   exact ⟨h1, fun h => (mem_un.1 h).2.2 h3, fun h => (mem_und.1 h).2 h2⟩
theorem AppOk.keep {V : List Var} {a : App} (h : AppOk s.preds V a) (hd : DS s a.pred ∧ NS s a.pred) : AppOk (applied (findT s) s).preds V a := by
 obtain ⟨f, hf, hn, hl, ha⟩ := h
 refine ⟨f, mem_keepP.2 ⟨hf, by rw [← hn]; exact hd⟩, hn, hl, ha⟩
theorem applied_ok (hs : SysV s) : SysV (applied (findT s) s) := by
 refine ⟨List.filter_sublist.trans hs.preds, Nat.le_trans (List.length_filter_le _ _) hs.len, fun c hc => ?_⟩
 obtain ⟨h1, h2, h3⟩ := (mem_keep hs).1 hc
 obtain ⟨g1, g2, g3, g4, g5⟩ := hs.clauses c h1
 refine ⟨g1, g2, fun a ha => (g3 a ha).keep (h3 a ha), g4, ?_⟩
 rcases g5 with g5 | g5
 · exact .inl g5
 · rcases h2 with h2 | h2
   · exact absurd h2 (hs.name_ne g5.name)
   · exact .inr (g5.keep h2)
theorem der_keep (hs : SysV s) {a : List Nat} (h : DS s a) : NS s a → DS (applied (findT s) s) a := by
 induction h with
 | of hc hh hb ih =>
   rename_i c
   intro hn
   have hnb : ∀ a ∈ c.body, NS s a.pred := fun a ha => .of hc hn hb ha
   exact .of ((mem_keep hs).2 ⟨hc, .inr ⟨.of hc hh hb, hn⟩, fun a ha => ⟨hb a ha, hnb a ha⟩⟩) hh fun a ha => ih a ha (hnb a ha)
theorem need_keep (hs : SysV s) {a : List Nat} (h : NS s a) : NS (applied (findT s) s) a := by
 induction h with
 | query hc hh hb ha =>
   have hnb := fun a ha => (Need.query hc hh hb ha : NS s (App.pred a))
   exact .query ((mem_keep hs).2 ⟨hc, .inl hh, fun a ha => ⟨hb a ha, hnb a ha⟩⟩) hh (fun a ha => der_keep hs (hb a ha) (hnb a ha)) ha
 | of hc hh hb ha ih =>
   have hnb := fun a ha => (Need.of hc hh hb ha : NS s (App.pred a))
   have hne : _ ≠ [] := hs.name_ne (Need.name hs hh)
   exact .of ((mem_keep hs).2 ⟨hc, .inr ⟨.of hc hne hb, hh⟩, fun a ha => ⟨hb a ha, hnb a ha⟩⟩) ih (fun a ha => der_keep hs (hb a ha) (hnb a ha)) ha
theorem again_un (hs : SysV s) : (findT (applied (findT s) s)).un = [] := by
 refine List.eq_nil_iff_forall_not_mem.2 fun a ha => ?_
 obtain ⟨h1, h2, h3⟩ := mem_un.1 ha
 obtain ⟨f, hf, rfl⟩ := List.mem_map.1 h1
 exact h3 (need_keep hs (mem_keepP.1 hf).2.2)
theorem again_und (hs : SysV s) : (findT (applied (findT s) s)).und = [] := by
 refine List.eq_nil_iff_forall_not_mem.2 fun a ha => ?_
 obtain ⟨h1, h2⟩ := mem_und.1 ha
 obtain ⟨f, hf, rfl⟩ := List.mem_map.1 h1
 have := (mem_keepP.1 hf).2
 exact h2 (der_keep hs this.1 this.2)
end
theorem pure19 : Pure Gam 19 [] (.bool true) := Pure.tab (tab := [([], .bool true)]) rfl rfl rfl
theorem findT_ok {s : Sys} (hs : SysV s) : TfOk (findT s) := by
 have := findT_len hs
 rw [List.length_append] at this
 exact ⟨by omega, by omega, rfl⟩
theorem eTf_find {s : Sys} : eTf (findT s) = .agg [.int .i64 2, .str [], .str [], .int .i64 0, .int .i64 0, .sl (strs (findT s).un) .no, .sl (strs (findT s).und) .no, .sl [] .no] := (rfl)
theorem again {zs : List Int} (hz : ∀ z ∈ zs, -9223372036854775808 ≤ z ∧ z ≤ 9223372036854775807) : WC Gam 7 [ints zs |> fun l => .sl l .no] [] 0 fun v _ _ => v = .bool true := by
 refine WC_pure rfl fn7 rfl rfl rfl (az := [.sl (ints zs) .no]) rfl (by simp [idsL, AV.ids, ids_ints]) fun D B R hB hR => ?_
 simp only [go_sem, Nat.reduceBEq, Nat.reduceAdd, Nat.reduceLeDiff, Nat.reduceSub, reduceCtorEq, ↓reduceIte, af7, hB]
 refine CK_of_WC (wc26 hz (num_ok ⟨by rw [List.length_take]; omega, fun z hz' => hz z (List.mem_of_mem_take hz')⟩) fun s hs => ?_)
 have hv := hs.v
 have hv2 := applied_ok hv
 have p1 := pure21 hv
 obtain ⟨out, ho⟩ := kept_some (un := (findT s).un) (und := (findT s).und) (i := 0) (out := []) fun c hc => keep_some hv hc
 have p2 := pure24 hv (findT_ok hv) rfl rfl rfl rfl rfl rfl (findT_nodup hv) findT_in (by have := findT_len hv; omega) ho
 have p3 := pure21 hv2
 rw [eTf_find] at p1 p2 p3
 rw [again_un hv, again_und hv] at p3
 rw [eSys] at p1 p2 p3
 rw [eSys] at p2
 have hs0 : strs [] = [] := rfl
 rw [hs0] at p3
 simp only [go_sem, Nat.reduceBEq, Nat.reduceAdd, Nat.reduceLeDiff, Nat.reduceSub, reduceCtorEq, ↓reduceIte, hB, eSys, CK_pure p1, CK_pure p2, CK_pure p3, decide_true, CK_pure pure19, Int.reduceEq]
 rw [RV_bool]
 exact hR _ _ rfl
end Go.Proofs.YtbeooboebfbchaaGreatDoor.Am
