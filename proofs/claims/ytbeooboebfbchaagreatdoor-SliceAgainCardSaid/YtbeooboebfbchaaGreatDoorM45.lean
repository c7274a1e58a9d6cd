/- Walking: a clause is checked (2). Walking: systems are checked. Walking: which bodies lie within a set; derivable predicates. Walking: derivable predicates. Walking: needed predicates. -/
import Derived.Test.YtbeooboebfbchaaGreatDoorM44
set_option linter.unusedVariables false
set_option linter.unusedSimpArgs false
namespace Go.Proofs.YtbeooboebfbchaaGreatDoor.Am
open Go
set_option maxRecDepth 100000
theorem CK_of_WCD {f base gg clk : Nat} {args : List AV} {h : List AObj} {m : Md} {dst : Option Nat} {os : List AOper} {ts : Tmps} {ks : List Kf} {Q : Post} (hf : callFoot Gam f args h = []) (hw : WC Gam f args h clk fun v h' c => O Gam base (m.add ([], [])) (gg + 1) os ⟨putA ts dst v, h', c⟩ ks Q) : CK Gam base f args h clk m dst gg os ts ks Q := by
 unfold CK
 rw [hf]
 exact hw
theorem RV_nil {T : List Nat} {R : AV → List AObj → Prop} {h : List AObj} : RV T (some []) R h = R (.tup []) h := RV_some rfl rfl
theorem reads122 {sC gC sP gP i : Nat} {s : Sys} {c : Clause} (hp : PrOk s.preds) (hn : ∀ p ∈ s.preds, ∀ v ∈ allVars, p.name ≠ v.name) (hc : ClauseOk s.preds c) (hi : s.clauses[i]? = some c) (hlt1 : sC < sP) : Reads [(sC, chkObj gC s sP gP), (sP, prObj gP s)] 122 [.ptr sC gC 0 0, .int .i64 (i : Int)] (.tup []) := by
 obtain ⟨hsub, hbl, hbody, hguard, hhead⟩ := hc
 have hV : ∀ v ∈ c.vars, v ∈ allVars := fun v hv => hsub.mem hv
 have hVl : c.vars.length ≤ 8 := hsub.length_le
 refine Reads.of rfl fn122 rfl rfl rfl (az := [.ptr sC gC 0 0, .int .i64 (i : Int)]) rfl (by simpa [idsL, AV.ids] using Cov.two chk_ids (pr_ids (gP := gP) (s := s))) fun D B clk T hB hS hlt hT => ?_
 have h1 := hlt (sC, chkObj gC s sP gP) (by simp)
 have h2 := hlt (sP, prObj gP s) (by simp)
 have b1 := blk_at (g := gC) (hS (sC, chkObj gC s sP gP) (by simp))
 dsimp only at h1 h2 b1
 have hil : i < s.clauses.length := by
   rw [List.getElem?_eq_some_iff] at hi
   exact hi.1
 have hix : ∀ h, idxAV h 5 (.sl (s.clauses.map eClause) .no) (.int .i64 (i : Int)) = some (.iptr [.sl (c.vars.map eVar) .no, .sl (c.body.map eApp) .no, AV.sl (c.guard.map eNode) .no, .str c.head.pred, .sl (c.head.args.map eTerm) .no] 0, h) := fun h => by
   have h2 : s.clauses[i] = c := by
     rw [List.getElem?_eq_some_iff] at hi
     exact hi.2
   rw [idx_map (f := eClause) hil (cs := [.sl (c.vars.map eVar) .no, .sl (c.body.map eApp) .no, AV.sl (c.guard.map eNode) .no, .str c.head.pred, .sl (c.head.args.map eTerm) .no]) (esz := 5) (by rw [h2]; rfl) rfl]
 simp only [go_sem, Nat.reduceBEq, Nat.reduceAdd, Nat.reduceLeDiff, Nat.reduceSub, reduceCtorEq, ↓reduceIte, af122, hB, out_blk hB h1, b1, hix]
 refine CK_of_WC (wc171 hsub fun gX oX c2 => ?_)
 have hlen : ∀ a b c : AObj, (D ++ [a, b, c]).length = B + 3 := fun a b c => by simp [hB]
 have hS2 : ∀ L, Has [(sC, chkObj gC s sP gP), (sP, prObj gP s)] (D ++ L) := fun L => hS.app
 have hSX : ∀ a b d L, Has [(B + 3, .map gX (scopeMap c.vars))] (D ++ a :: b :: d :: .map gX (scopeMap c.vars) :: L) := fun _ _ _ _ => has_loc hB rfl
 have hS5 : ∀ g0 g2 b L, Has [(B + 0, .blk g0 [.ptr sC gC 0 0] false false 0), (sC, chkObj gC s sP gP), (sP, prObj gP s), (B + 2, .blk g2 [.mp (B + 3) gX] false false 0), (B + 3, .map gX (scopeMap c.vars))] (D ++ .blk g0 [.ptr sC gC 0 0] false false 0 :: b :: .blk g2 [.mp (B + 3) gX] false false 0 :: .map gX (scopeMap c.vars) :: L) := fun g0 g2 b L => by
   refine Has.cons ?_ (Has.cons (hS2 _ (sC, chkObj gC s sP gP) (by simp)) (Has.cons (hS2 _ (sP, prObj gP s) (by simp)) (Has.cons ?_ (Has.cons ?_ Has.nil))))
   · dsimp only; rw [loc_get hB]; rfl
   · dsimp only; rw [loc_get hB]; rfl
   · dsimp only; rw [loc_get hB]; rfl
 have hS3 : ∀ a b d L, Has [(sC, chkObj gC s sP gP), (sP, prObj gP s), (B + 3, .map gX (scopeMap c.vars))] (D ++ a :: b :: d :: .map gX (scopeMap c.vars) :: L) := fun a b d L => by
   refine Has.cons (hS2 _ (sC, chkObj gC s sP gP) (by simp)) (Has.cons (hS2 _ (sP, prObj gP s) (by simp)) (hSX a b d L))
 have hd : ∀ N, N = B + 5 → sC < N ∧ sP < N := fun N hN => by omega
 simp only [go_sem, Nat.reduceBEq, Nat.reduceAdd, Nat.reduceLeDiff, Nat.reduceSub, reduceCtorEq, ↓reduceIte, hB, hlen, List.append_assoc, K_draw, getD_zero]
 refine CK_readsD (reads172 hn hsub) (hS2 _) ?_
 simp only [go_sem, Nat.reduceBEq, Nat.reduceAdd, Nat.reduceLeDiff, Nat.reduceSub, reduceCtorEq, ↓reduceIte, Bool.not_true]
 refine CK_readsD reads121 (hS2 _) ?_
 simp only [go_sem, Nat.reduceBEq, Nat.reduceAdd, Nat.reduceLeDiff, Nat.reduceSub, reduceCtorEq, ↓reduceIte, hB]
 refine ⟨by simp [drawOk, apart, disjoint, callAt, footAt, AOp.isCall, hB] <;> omega, ?_⟩
 have r93 : ∀ g0 g2, Reads [(B + 0, .blk g0 [.ptr sC gC 0 0] false false 0), (sC, chkObj gC s sP gP), (sP, prObj gP s), (B + 2, .blk g2 [.mp (B + 3) gX] false false 0), (B + 3, .map gX (scopeMap c.vars))] 93 [.sl (c.body.map eApp) .no, .fn 173 [.ptr (B + 0) g0 0 0, .ptr (B + 2) g2 0 0]] (.bool false) := fun g0 g2 => by
   have := reads93 (enc := eApp) (xs := c.body) (t := .no) (cap := [.ptr (B + 0) g0 0 0, .ptr (B + 2) g2 0 0]) (P := fun _ => false) (fun _ => rfl) (fun _ _ => rfl) ids_app (by omega) (by simpa [idsL, AV.ids] using Cov.five (s2 := B + 0) (s5 := B + 2) (sX := B + 3) (g2 := g0) (g5 := g2) (gC := gC) (gP := gP) (gX := gX) (s := s) (V := c.vars) hlt1 (by omega) (by omega) (by omega)) fun a ha => reads173 hp (hbody a ha) hV hlt1 (by omega) (by omega) (by omega)
   have e : (c.body.any fun _ => false) = false := by simp
   rw [e] at this
   exact this
 simp only [go_sem, Nat.reduceBEq, Nat.reduceAdd, Nat.reduceLeDiff, Nat.reduceSub, reduceCtorEq, ↓reduceIte, hB, K_draw]
 refine CK_readsD (r93 _ _) (hS5 _ _ _ _) ?_
 simp only [go_sem, Nat.reduceBEq, Nat.reduceAdd, Nat.reduceLeDiff, Nat.reduceSub, reduceCtorEq, ↓reduceIte, ]
 refine CK_readsD reads121 (hS2 _) ?_
 simp only [go_sem, Nat.reduceBEq, Nat.reduceAdd, Nat.reduceLeDiff, Nat.reduceSub, reduceCtorEq, ↓reduceIte, hB]
 refine ⟨by simp [drawOk, apart, disjoint, callAt, footAt, AOp.isCall, hB] <;> omega, ?_⟩
 have r175 : Reads [(B + 3, .map gX (scopeMap c.vars))] 175 [.mp (B + 3) gX, .sl (c.guard.map eNode) .no, .int .i64 1] (.bool true) := reads175 hguard.1 hV (by have := hguard.2.1; omega) (by omega)
 simp only [go_sem, Nat.reduceBEq, Nat.reduceAdd, Nat.reduceLeDiff, Nat.reduceSub, reduceCtorEq, ↓reduceIte, hB, K_draw]
 refine CK_readsD r175 (hSX _ _ _ _) ?_
 simp only [go_sem, Nat.reduceBEq, Nat.reduceAdd, Nat.reduceLeDiff, Nat.reduceSub, reduceCtorEq, ↓reduceIte, Bool.not_true]
 refine CK_readsD reads121 (hS2 _) ?_
 simp only [go_sem, Nat.reduceBEq, Nat.reduceAdd, Nat.reduceLeDiff, Nat.reduceSub, reduceCtorEq, ↓reduceIte, hB]
 refine ⟨by simp [drawOk, apart, disjoint, callAt, footAt, AOp.isCall, hB] <;> omega, ?_⟩
 have e1 : decide ((400 : Int) < (c.vars.length : Int)) = false := by rw [decide_eq_false_iff_not]; omega
 have e2 : decide ((8 : Int) < (c.body.length : Int)) = false := by rw [decide_eq_false_iff_not]; omega
 rcases hhead with ⟨hh1, hh2⟩ | hha
 · simp only [go_sem, Nat.reduceBEq, Nat.reduceAdd, Nat.reduceLeDiff, Nat.reduceSub, reduceCtorEq, ↓reduceIte, hB, hh1, hh2, decide_true, List.length_map, Int.reduceLT, decide_false]
   rw [CK_reads reads121 (hS2 _)]
   simp only [go_sem, Nat.reduceBEq, Nat.reduceAdd, Nat.reduceLeDiff, Nat.reduceSub, reduceCtorEq, ↓reduceIte, hB, List.length_map, e1, e2]
   rw [CK_reads reads121 (hS2 _)]
   simp only [go_sem, Nat.reduceBEq, Nat.reduceAdd, Nat.reduceLeDiff, Nat.reduceSub, reduceCtorEq, ↓reduceIte, ]
   rw [RV_nil]
   exact hT _ hS.app
 · have hne : decide (c.head.pred = []) = false := by
     obtain ⟨f, hf, hname, _, _⟩ := hha
     rw [decide_eq_false_iff_not, hname]
     exact hp.name f hf
   have r174 := reads174 (sC := sC) (gC := gC) (sP := sP) (gP := gP) (sX := B + 3) (gX := gX) hp hha hV
   rw [eApp] at r174
   simp only [go_sem, Nat.reduceBEq, Nat.reduceAdd, Nat.reduceLeDiff, Nat.reduceSub, reduceCtorEq, ↓reduceIte, hB, hne, K_draw]
   refine CK_readsD r174 (hS3 _ _ _ _) ?_
   simp only [go_sem, Nat.reduceBEq, Nat.reduceAdd, Nat.reduceLeDiff, Nat.reduceSub, reduceCtorEq, ↓reduceIte, Bool.not_true]
   refine CK_readsD reads121 (hS2 _) ?_
   simp only [go_sem, Nat.reduceBEq, Nat.reduceAdd, Nat.reduceLeDiff, Nat.reduceSub, reduceCtorEq, ↓reduceIte, hB]
   refine ⟨by simp [drawOk, apart, disjoint, callAt, footAt, AOp.isCall, hB] <;> omega, ?_⟩
   simp only [go_sem, Nat.reduceBEq, Nat.reduceAdd, Nat.reduceLeDiff, Nat.reduceSub, reduceCtorEq, ↓reduceIte, hB, List.length_map, e1, e2]
   rw [CK_reads reads121 (hS2 _)]
   simp only [go_sem, Nat.reduceBEq, Nat.reduceAdd, Nat.reduceLeDiff, Nat.reduceSub, reduceCtorEq, ↓reduceIte, ]
   rw [RV_nil]
   exact hT _ hS.app
structure SysV (s : Sys) : Prop where
 preds : s.preds.Sublist allPreds
 len : s.clauses.length ≤ 8
 clauses : ∀ c ∈ s.clauses, ClauseOk s.preds c
theorem SysOk.v {s : Sys} (h : SysOk s) : SysV s := by
 obtain ⟨⟨n, _, _, hp⟩, hl, hc⟩ := h
 exact ⟨by rw [hp]; exact List.take_sublist _ _, hl, hc⟩
theorem SysV.pr {s : Sys} (h : SysV s) : PrOk s.preds := by
 refine ⟨(h.preds.map _).nodup (by decide), fun f hf => ?_, fun f hf => ?_⟩
 · have : ∀ f ∈ allPreds, f.args.length ≤ 40 ∧ ∀ s ∈ f.args, 1 ≤ s ∧ s ≤ 4 := by decide
   exact this f (h.preds.mem hf)
 · have : ∀ f ∈ allPreds, f.name ≠ [] := by decide
   exact this f (h.preds.mem hf)
theorem SysV.apart {s : Sys} (h : SysV s) : ∀ p ∈ s.preds, ∀ v ∈ allVars, p.name ≠ v.name := fun p hp => by
 have : ∀ p ∈ allPreds, ∀ v ∈ allVars, p.name ≠ v.name := by decide
 exact this p (h.preds.mem hp)
theorem wc117 {ps : List Func} {u : Tip} {h : List AObj} {clk : Nat} {Q : AV → List AObj → Nat → Prop} (hp : PrOk ps) (hl : ps.length ≤ 1000) (hQ : ∀ g o c, Q (.mp h.length g) (h ++ [.map g (predMap 0 ps), o]) c) : WC Gam 117 [.sl (ps.map eFunc) u] h clk Q := by
 refine WC_grow rfl fn117 rfl rfl rfl (az := [.sl (ps.map eFunc) .no]) rfl (by simp [idsL, AV.ids, idsL_map ids_func]) fun D B R hB hBh hR => ?_
 simp only [go_sem, Nat.reduceBEq, Nat.reduceAdd, Nat.reduceLeDiff, Nat.reduceSub, reduceCtorEq, ↓reduceIte, af117, hB, List.length_map]
 refine K_loop (fun m q => ∃ (i g : Nat) (o : AObj), i ≤ ps.length ∧ m = ps.length - i ∧ q.ts 3 = .mp (B + 0) g ∧ q.ts 9 = .sl (ps.map eFunc) .no ∧ q.ts 10 = .int .i64 (ps.length : Int) ∧ q.ts 11 = .int .i64 (i : Int) ∧ q.h = D ++ [.map g (predMap 0 (ps.take i)), o]) ps.length ⟨0, _, _, by omega, rfl, rfl, rfl, rfl, rfl, rfl⟩ ?_
 rintro m ⟨ts, h, clk⟩ Pq ⟨i, g, o, hi, rfl, q3, q9, q10, q11, rfl⟩ hnx he hr
 dsimp only at q3 q9 q10 q11
 by_cases hlt' : i < ps.length
 · have f1 : decide ((i : Int) < (ps.length : Int)) = true := by rw [decide_eq_true_iff]; omega
   have f2 : IntKind.i64.wrap ((i : Int) + 1) = ((i + 1 : Nat) : Int) := wrap_i64 (by omega) (by omega)
   have hix : ∀ h, idxAV h 3 (.sl (ps.map eFunc) .no) (.int .i64 (i : Int)) = some (.iptr [.str ps[i].name, .sl (ps[i].args.map nat) .no, .int .i64 (ps[i].result : Int)] 0, h) := fun h => idx_func hlt'
   have htake : ps.take (i + 1) = ps.take i ++ [ps[i]] := List.take_succ_eq_append_getElem hlt'
   have hnew : ∀ p ∈ ps.take i, p.name ≠ ps[i].name := by
     intro p hp' e
     have h3 := hp.nodup
     have h4 : ((ps.take (i + 1)).map (·.name)).Nodup := h3.sublist ((List.take_sublist _ _).map _)
     rw [htake, List.map_append, List.nodup_append] at h4
     exact h4.2.2 _ (List.mem_map.2 ⟨p, hp', rfl⟩) _ (by simp) e
   have hput := putKey_pred (a := ps[i].name) (n := i) (ps := ps.take i) (k := 0) (r := ps[i].args) (q := ps[i].result) hnew (by simp; omega)
   have hfk := findKey_pred (a := ps[i].name) (k := 0) hnew
   generalize ps[i] = p at *
   have hmu : ∀ L : List AObj, mapAt L 0 g = some (predMap 0 (ps.take i)) → muV (D ++ L) (.one .str) (.str p.name) (.int .i64 (i : Int)) (.mp (B + 0) g) = some (.undef, D ++ L.set 0 (.map g (predMap 0 (ps.take (i + 1))))) := fun L hL => by
     refine mu_loc (v := .int .i64 (i : Int)) hB hL rfl ?_
     rw [htake]
     exact hput
   simp only [go_sem, Nat.reduceBEq, Nat.reduceAdd, Nat.reduceLeDiff, Nat.reduceSub, reduceCtorEq, ↓reduceIte, c117_0, q3, q9, q10, q11, f1, hB, hix, mapOf_mp, lk_str hfk, found_none, Bool.not_false, hmu, f2]
   exact hnx (ps.length - (i + 1)) _ (by omega) ⟨i + 1, g, _, hlt', rfl, q3, q9, q10, rfl, rfl⟩
 · have f1 : decide ((i : Int) < (ps.length : Int)) = false := by rw [decide_eq_false_iff_not]; omega
   have hti : ps.take i = ps := List.take_of_length_le (by omega)
   simp only [go_sem, Nat.reduceBEq, Nat.reduceAdd, Nat.reduceLeDiff, Nat.reduceSub, reduceCtorEq, ↓reduceIte, c117_0, q3, q9, q10, q11, f1]
   refine he _ _ ?_
   simp only [go_sem, Nat.reduceBEq, Nat.reduceAdd, Nat.reduceLeDiff, Nat.reduceSub, reduceCtorEq, ↓reduceIte, q3]
   rw [RVG_some rfl, hti]
   refine hR _ _ ⟨B + 0, by simp [oneOf, AV.cv, AV.ids], by omega⟩ fun c => ?_
   have := hQ g o c
   rw [← hBh] at this
   exact this
theorem pure119 {f : Func} (hf : f ∈ allPreds) : Pure Gam 119 [eFunc f] (.bool false) := by
 refine Pure.tab (tab := tab119) rfl rfl ?_
 simp only [allPreds, List.mem_cons, List.not_mem_nil, or_false] at hf
 rcases hf with rfl | rfl | rfl | rfl | rfl <;> rfl
theorem Cov.none : Cov [] [] := ⟨by simp, by simp, fun h _ p hp => by simp at hp⟩
theorem reads118' {ps : List Func} (hp : ps.Sublist allPreds) : Reads [] 118 [.sl (ps.map eFunc) .no, .fn 119 []] (.bool false) := by
 have := reads118 (enc := eFunc) (xs := ps) (S := []) (c := 119) (cap := []) (t := .no) (P := fun _ => false) (fun _ => rfl) (fun _ _ => rfl) ids_func (by have := hp.length_le; simp [allPreds] at this; omega) Cov.none fun f hf => (pure119 (hp.mem hf)).reads
 have e : (ps.any fun _ => false) = false := by simp
 rw [e] at this
 exact this
theorem lenV_mp {h : List AObj} {s g : Nat} : lenV h .mp (.mp s g) = ((mapAt h s g).map fun es => (.int .i64 (es.length : Int))).map (·, h) := (rfl)
theorem pure61 {s : Sys} (hs : SysV s) : Pure Gam 61 [eSys s] (.sl [] .no) := by
 have hpr := hs.pr
 have hpl : s.preds.length ≤ 5 := hs.preds.length_le
 have hcl := hs.len
 refine Pure.of rfl fn61 rfl rfl rfl (az := [eSys s]) rfl (by simp [idsL, ids_sys]) fun D B clk T hB hT => ?_
 simp only [go_sem, Nat.reduceBEq, Nat.reduceAdd, Nat.reduceLeDiff, Nat.reduceSub, reduceCtorEq, ↓reduceIte, af61, hB, eSys, K_draw]
 refine CK_of_WCD ?_ (wc117 hpr (by omega) fun gP oP c2 => ?_)
 · refine callFoot_pure (az := [.sl (s.preds.map eFunc) .no]) fn117 rfl rfl rfl (by simp [idsL, AV.ids, idsL_map ids_func])
 have hlen : ∀ a b : AObj, (D ++ [a, b]).length = B + 2 := fun a b => by simp [hB]
 simp only [go_sem, Nat.reduceBEq, Nat.reduceAdd, Nat.reduceLeDiff, Nat.reduceSub, reduceCtorEq, ↓reduceIte, hB, hlen, List.append_assoc]
 refine ⟨by simp [drawOk, apart, disjoint, callAt, footAt, AOp.isCall], ?_⟩
 have hS : ∀ g a o, Has [(B + 1, chkObj g s (B + 2) gP), (B + 2, prObj gP s)] (D ++ [a, .blk g [.agg [.sl (s.preds.map eFunc) .no, .sl (s.clauses.map eClause) .no, .mp (B + 2) gP, .sl [] .nil]] false false 0, .map gP (predMap 0 s.preds), o]) := fun g a o => by
   refine Has.cons ?_ (Has.cons ?_ Has.nil)
   · dsimp only; rw [loc_get hB]; rfl
   · dsimp only; rw [loc_get hB]; rfl
 have r118 := reads118' hs.preds
 have e1 : decide ((s.preds.length : Int) < (s.preds.length : Int)) = false := by rw [decide_eq_false_iff_not]; omega
 have e2 : decide ((512 : Int) < (s.preds.length : Int)) = false := by rw [decide_eq_false_iff_not]; omega
 have e3 : decide ((2048 : Int) < (s.clauses.length : Int)) = false := by rw [decide_eq_false_iff_not]; omega
 simp only [lenV_mp, loc_map hB, map_succ, map_zero, Option.map_some, predMap_len]
 simp only [go_sem, Nat.reduceBEq, Nat.reduceAdd, Nat.reduceLeDiff, Nat.reduceSub, reduceCtorEq, ↓reduceIte, hB, List.length_map, e1, CK_reads r118 Has.nil, decide_false, Int.lt_irrefl]
 rw [CK_reads reads121 (hS _ _ _)]
 simp only [go_sem, Nat.reduceBEq, Nat.reduceAdd, Nat.reduceLeDiff, Nat.reduceSub, reduceCtorEq, ↓reduceIte, hB, List.length_map, e2, e3]
 rw [CK_reads reads121 (hS _ _ _)]
 simp only [go_sem, Nat.reduceBEq, Nat.reduceAdd, Nat.reduceLeDiff, Nat.reduceSub, reduceCtorEq, ↓reduceIte, hB, List.length_map]
 refine K_loop (fun m q => ∃ (i gC : Nat) (a : AObj), i ≤ s.clauses.length ∧ m = s.clauses.length - i ∧ q.ts 3 = .ptr (B + 1) gC 0 0 ∧ q.ts 43 = .int .i64 (s.clauses.length : Int) ∧ q.ts 44 = .int .i64 (i : Int) ∧ q.h = D ++ [a, .blk gC [.agg [.sl (s.preds.map eFunc) .no, .sl (s.clauses.map eClause) .no, .mp (B + 2) gP, .sl [] .nil]] false false 0, .map gP (predMap 0 s.preds), oP]) s.clauses.length ⟨0, _, _, by omega, rfl, by simp [upd_at], by simp [upd_at], by simp [upd_at], rfl⟩ ?_
 rintro m ⟨ts, h, clk⟩ Pq ⟨i, gC, a, hi, rfl, q3, q43, q44, rfl⟩ hnx he hr
 dsimp only at q3 q43 q44
 by_cases hlt' : i < s.clauses.length
 · have f1 : decide ((i : Int) < (s.clauses.length : Int)) = true := by rw [decide_eq_true_iff]; omega
   have f2 : IntKind.i64.wrap ((i : Int) + 1) = ((i + 1 : Nat) : Int) := wrap_i64 (by omega) (by omega)
   have r122 := reads122 (sC := B + 1) (gC := gC) (sP := B + 2) (gP := gP) (i := i) (c := s.clauses[i]) hpr hs.apart (hs.clauses _ (List.getElem_mem hlt')) (by simp [hlt']) (by omega)
   simp only [go_sem, Nat.reduceBEq, Nat.reduceAdd, Nat.reduceLeDiff, Nat.reduceSub, reduceCtorEq, ↓reduceIte, c61_0, q3, q43, q44, f1, CK_reads r122 (hS _ _ _), f2]
   exact hnx (s.clauses.length - (i + 1)) _ (by omega) ⟨i + 1, gC, a, hlt', rfl, q3, q43, rfl, rfl⟩
 · have f1 : decide ((i : Int) < (s.clauses.length : Int)) = false := by rw [decide_eq_false_iff_not]; omega
   simp only [go_sem, Nat.reduceBEq, Nat.reduceAdd, Nat.reduceLeDiff, Nat.reduceSub, reduceCtorEq, ↓reduceIte, c61_0, q3, q43, q44, f1]
   refine he _ _ ?_
   simp only [go_sem, Nat.reduceBEq, Nat.reduceAdd, Nat.reduceLeDiff, Nat.reduceSub, reduceCtorEq, ↓reduceIte, q3, hB]
   rw [RV_some rfl rfl]
   exact hT _
theorem pure31 {s : Sys} (hs : SysV s) : Pure Gam 31 [eSys s] (.bool true) := by
 have hp := pure61 hs
 rw [eSys] at hp
 refine Pure.of rfl fn31 rfl rfl rfl (az := [eSys s]) rfl (by simp [idsL, ids_sys]) fun D B clk T hB hT => ?_
 simp only [go_sem, Nat.reduceBEq, Nat.reduceLeDiff, af31, hB, eSys, CK_pure hp, Int.reduceEq, decide_true]
 rw [RV_bool]
 exact hT _
theorem setv_ids {s g : Nat} {l : List (List Nat)} : Cov [(s, .map g (nameSet l))] [s] := Cov.one set_ids
theorem reads137 {s g sM gM : Nat} {a : App} {l : List (List Nat)} : Reads [(s, .blk g [.mp sM gM] false false 0), (sM, .map gM (nameSet l))] 137 [eApp a, .ptr s g 0 0] (.bool (!decide (a.pred ∈ l))) := by
 refine Reads.of rfl fn137 rfl rfl rfl (az := [eApp a, .ptr s g 0 0]) rfl (by simpa [idsL, AV.ids, ids_app] using Cov.two (s := s) (t := sM) rfl set_ids) fun D B clk T hB hS hlt hT => ?_
 have h1 := hlt (s, .blk g [.mp sM gM] false false 0) (by simp)
 have h2 := hlt (sM, .map gM (nameSet l)) (by simp)
 have b1 := blk_at (g := g) (hS (s, .blk g [.mp sM gM] false false 0) (by simp))
 have b2 := map_at (g := gM) (hS (sM, .map gM (nameSet l)) (by simp))
 dsimp only at h1 h2 b1 b2
 by_cases hin : a.pred ∈ l
 · simp only [go_sem, Nat.reduceBEq, Nat.reduceAdd, ↓reduceIte, af137, hB, eApp, out_blk hB h1, b1, mapOf_mp, out_map hB h2, b2, lk_set, hin, found_someF, Bool.not_true]
   rw [RV_bool]
   simp only [hin, decide_true, Bool.not_true] at hT
   exact hT _ hS.app
 · simp only [go_sem, Nat.reduceBEq, Nat.reduceAdd, ↓reduceIte, af137, hB, eApp, out_blk hB h1, b1, mapOf_mp, out_map hB h2, b2, lk_set, hin, found_noneF, Bool.not_false]
   rw [RV_bool]
   simp only [hin, decide_false, Bool.not_false] at hT
   exact hT _ hS.app
def withinB (body : List App) (l : List (List Nat)) : Bool := body.all fun a => decide (a.pred ∈ l)
theorem reads87 {sM gM : Nat} {body : List App} {l : List (List Nat)} {u : Tip} (hl : body.length ≤ 2 ^ 20) : Reads [(sM, .map gM (nameSet l))] 87 [.sl (body.map eApp) u, .mp sM gM] (.bool (withinB body l)) := by
 refine Reads.of rfl fn87 rfl rfl rfl (az := [.sl (body.map eApp) .no, .mp sM gM]) rfl (by simpa [idsL, AV.ids, idsL_map ids_app] using setv_ids) fun D B clk T hB hS hlt hT => ?_
 have hr : ∀ g, Reads [(B + 0, .blk g [.mp sM gM] false false 0), (sM, .map gM (nameSet l))] 93 [.sl (body.map eApp) .no, .fn 137 [.ptr (B + 0) g 0 0]] (.bool (body.any fun a => !decide (a.pred ∈ l))) := fun g =>
   reads93 (enc := eApp) (P := fun a => !decide (a.pred ∈ l)) (fun _ => rfl) (fun _ _ => rfl) ids_app hl (by simpa [idsL, AV.ids] using Cov.two (s := B + 0) (t := sM) rfl set_ids) fun a _ => reads137
 have hh : ∀ g, Has [(B + 0, .blk g [.mp sM gM] false false 0), (sM, .map gM (nameSet l))] (D ++ [.blk g [.mp sM gM] false false 0]) := fun g => by
   refine Has.cons ?_ (Has.cons (hS.app (sM, .map gM (nameSet l)) (by simp)) Has.nil)
   dsimp only; rw [loc_get hB]; rfl
 have e : (!(body.any fun a => !decide (a.pred ∈ l))) = withinB body l := by
   unfold withinB
   rw [List.not_any_eq_all_not]
   simp
 simp only [go_sem, Nat.reduceBEq, af87, hB]
 rw [CK_reads (hr _) (hh _)]
 simp only [go_sem, Nat.reduceBEq, e]
 rw [RV_bool]
 exact hT _ hS.app
inductive Der (cs : List Clause) : List Nat → Prop
 | of {c : Clause} (hc : c ∈ cs) (hh : c.head.pred ≠ []) (hb : ∀ a ∈ c.body, Der cs a.pred) : Der cs c.head.pred
def ClosedD (c : Clause) (l : List (List Nat)) : Prop := c.head.pred ≠ [] → withinB c.body l = true → c.head.pred ∈ l
theorem within_iff {body : List App} {l : List (List Nat)} : withinB body l = true ↔ ∀ a ∈ body, a.pred ∈ l := by simp [withinB]
theorem der_all {cs : List Clause} {l : List (List Nat)} (hc : ∀ c ∈ cs, ClosedD c l) {a : List Nat} (h : Der cs a) : a ∈ l := by
 induction h with
 | of hc' hh hb ih => exact hc _ hc' hh (within_iff.2 ih)
def open' (cs : List Clause) (l : List (List Nat)) : Nat := (cs.filter fun c => decide (c.head.pred ∉ l)).length
theorem open_le {cs : List Clause} {l l' : List (List Nat)} (h : ∀ a ∈ l, a ∈ l') : open' cs l' ≤ open' cs l := by
 unfold open'
 rw [← List.countP_eq_length_filter, ← List.countP_eq_length_filter]
 refine List.countP_mono_left fun c _ hc => ?_
 simp only [decide_eq_true_eq] at hc ⊢
 exact fun h' => hc (h _ h')
theorem open_lt {cs : List Clause} {l : List (List Nat)} {c : Clause} (hc : c ∈ cs) (hn : c.head.pred ∉ l) : open' cs (l ++ [c.head.pred]) < open' cs l := by
 unfold open'
 induction cs with
 | nil => simp at hc
 | cons d cs ih =>
   have hle : ∀ ds : List Clause, (ds.filter fun c' => decide (c'.head.pred ∉ l ++ [c.head.pred])).length ≤ (ds.filter fun c' => decide (c'.head.pred ∉ l)).length := fun ds => open_le (cs := ds) (fun a ha => List.mem_append_left _ ha)
   rw [List.mem_cons] at hc
   rcases hc with rfl | hc
   · have := hle cs
     simp [List.filter_cons, hn]
     simp at this
     omega
   · have := ih hc
     simp only [List.filter_cons]
     have h2 := hle [d]
     simp only [List.filter_cons, List.filter_nil] at h2
     split <;> split <;> simp_all <;> omega
theorem clause_idx {l : List Clause} {i : Nat} {h : List AObj} {t : Tip} {k : IntKind} (hi : i < l.length) : idxAV h 5 (.sl (l.map eClause) t) (.int k (i : Int)) = some (.iptr [.sl (l[i].vars.map eVar) .no, .sl (l[i].body.map eApp) .no, .sl (l[i].guard.map eNode) .no, .str l[i].head.pred, .sl (l[i].head.args.map eTerm) .no] 0, h) := idx_map hi rfl rfl
theorem derLoop {cs : List Clause} {B clk g0 g : Nat} {D : List AObj} {o0 o2 : AObj} {l : List (List Nat)} {ts : Tmps} {ks : List Kf} {Q : Post} (hB : D.length = B) (hcl : cs.length ≤ 2 ^ 20) (hbl : ∀ c ∈ cs, c.body.length ≤ 2 ^ 20) (hD : ∀ a ∈ l, Der cs a) (h1 : ts 1 = .ptr (B + 0) g0 0 0) (h3 : ts 3 = .mp (B + 1) g) (h4 : ts 4 = .bool false) (h10 : ts 10 = .sl (cs.map eClause) .no) (h11 : ts 11 = .int .i64 (cs.length : Int)) (h12 : ts 12 = .int .i64 0)
   (hQ : ∀ (ts' : Tmps) (l' : List (List Nat)) (b : Bool) (o2 : AObj) (clk' : Nat), (∀ a ∈ l', Der cs a) → (b = true → open' cs l' < open' cs l) → (b = false → l' = l ∧ ∀ c ∈ cs, ClosedD c l) → ts' 1 = .ptr (B + 0) g0 0 0 → ts' 3 = .mp (B + 1) g → ts' 4 = .bool b → K Gam B (.exit 2) ks ⟨ts', D ++ [o0, .map g (nameSet l'), o2], clk'⟩ Q) :
   K Gam B (.loop c44_0) ks ⟨ts, D ++ [o0, .map g (nameSet l), o2], clk⟩ Q := by
 refine K_loop (fun m q => ∃ (i : Nat) (l' : List (List Nat)) (b : Bool) (o2 : AObj), i ≤ cs.length ∧ m = cs.length - i ∧ (∀ a ∈ l', Der cs a) ∧ (b = true → open' cs l' < open' cs l) ∧ (b = false → l' = l ∧ ∀ c ∈ cs.take i, ClosedD c l) ∧ q.ts 1 = .ptr (B + 0) g0 0 0 ∧ q.ts 3 = .mp (B + 1) g ∧ q.ts 4 = .bool b ∧ q.ts 10 = .sl (cs.map eClause) .no ∧ q.ts 11 = .int .i64 (cs.length : Int) ∧ q.ts 12 = .int .i64 (i : Int) ∧ q.h = D ++ [o0, .map g (nameSet l'), o2]) cs.length ⟨0, l, false, o2, by omega, rfl, hD, by simp, fun _ => ⟨rfl, by simp⟩, h1, h3, h4, h10, h11, h12, rfl⟩ ?_
 clear h1 h3 h4 h10 h11 h12
 rintro m ⟨ts, h, clk⟩ P ⟨i, l', b, o2, hi, rfl, hD', hb1, hb2, q1, q3, q4, q10, q11, q12, rfl⟩ hnx he hr
 dsimp only at q1 q3 q4 q10 q11 q12
 by_cases hlt : i < cs.length
 · have f1 : decide ((i : Int) < (cs.length : Int)) = true := by rw [decide_eq_true_iff]; omega
   have f2 : IntKind.i64.wrap ((i : Int) + 1) = ((i + 1 : Nat) : Int) := wrap_i64 (by omega) (by omega)
   have hmem := List.getElem_mem hlt
   have htake : cs.take (i + 1) = cs.take i ++ [cs[i]] := List.take_succ_eq_append_getElem hlt
   have hix := fun h => clause_idx (l := cs) (i := i) (h := h) (t := .no) (k := .i64) hlt
   have hbody := hbl _ hmem
   generalize cs[i] = c at hmem htake hix hbody
   have same : ClosedD c l' → ∀ (ts' : Tmps) (clk' : Nat) (o2 : AObj), ts' 1 = .ptr (B + 0) g0 0 0 → ts' 3 = .mp (B + 1) g → ts' 4 = .bool b → ts' 10 = .sl (cs.map eClause) .no → ts' 11 = .int .i64 (cs.length : Int) → ts' 12 = .int .i64 ((i + 1 : Nat) : Int) → P .norm ⟨ts', D ++ [o0, .map g (nameSet l'), o2], clk'⟩ := by
     intro hc ts' clk' o2 r1 r3 r4 r10 r11 r12
     refine hnx (cs.length - (i + 1)) _ (by omega) ⟨i + 1, l', b, o2, hlt, rfl, hD', hb1, fun hbf => ?_, r1, r3, r4, r10, r11, r12, rfl⟩
     obtain ⟨e1, e2⟩ := hb2 hbf
     refine ⟨e1, fun d hd => ?_⟩
     rw [htake, List.mem_append, List.mem_singleton] at hd
     rcases hd with hd | rfl
     · exact e2 d hd
     · rw [← e1]; exact hc
   by_cases hh : c.head.pred = []
   · have g1 : decide (c.head.pred = []) = true := by rw [decide_eq_true_iff]; exact hh
     simp only [go_sem, Nat.reduceBEq, Nat.reduceAdd, Nat.reduceLeDiff, Nat.reduceSub, reduceCtorEq, ↓reduceIte, c44_0, q1, q3, q4, q10, q11, q12, hB, f1, hix, g1, Bool.not_true, f2]
     exact same (fun h => absurd hh h) _ _ _ q1 q3 q4 q10 q11 rfl
   · have g1 : decide (c.head.pred = []) = false := by rw [decide_eq_false_iff_not]; exact hh
     by_cases hin : c.head.pred ∈ l'
     · simp only [go_sem, Nat.reduceBEq, Nat.reduceAdd, Nat.reduceLeDiff, Nat.reduceSub, reduceCtorEq, ↓reduceIte, c44_0, q1, q3, q4, q10, q11, q12, hB, f1, hix, g1, Bool.not_false, mapOf_mp, lk_set, hin, found_someF, Bool.not_true, f2]
       exact same (fun _ _ => hin) _ _ _ q1 q3 q4 q10 q11 rfl
     · have hr := reads87 (sM := B + 1) (gM := g) (body := c.body) (l := l') (u := .no) hbody
       have hh2 : ∀ o2, Has [(B + 1, .map g (nameSet l'))] (D ++ [o0, .map g (nameSet l'), o2]) := fun o2 => has_loc hB rfl
       cases hw : withinB c.body l' with
       | false =>
         rw [hw] at hr
         simp only [go_sem, Nat.reduceBEq, Nat.reduceAdd, Nat.reduceLeDiff, Nat.reduceSub, reduceCtorEq, ↓reduceIte, c44_0, q1, q3, q4, q10, q11, q12, hB, f1, hix, g1, Bool.not_false, mapOf_mp, lk_set, hin, found_noneF, CK_reads hr (hh2 _), f2]
         exact same (fun _ h => by rw [hw] at h; cases h) _ _ _ q1 q3 q4 q10 q11 rfl
       | true =>
         rw [hw] at hr
         have hmu : ∀ L : List AObj, mapAt L 1 g = some (nameSet l') → muV (D ++ L) (.one .str) (.str c.head.pred) (.bool true) (.mp (B + 1) g) = some (.undef, D ++ L.set 1 (.map g (nameSet (l' ++ [c.head.pred])))) := fun L hL => mu_loc (v := .bool true) hB hL rfl (putKey_set hin)
         simp only [go_sem, Nat.reduceBEq, Nat.reduceAdd, Nat.reduceLeDiff, Nat.reduceSub, reduceCtorEq, ↓reduceIte, c44_0, q1, q3, q4, q10, q11, q12, hB, f1, hix, g1, Bool.not_false, mapOf_mp, lk_set, hin, found_noneF, CK_reads hr (hh2 _), hmu, f2]
         have hlt2 := open_lt hmem hin
         refine hnx (cs.length - (i + 1)) _ (by omega) ⟨i + 1, l' ++ [c.head.pred], true, _, hlt, rfl, fun a ha => ?_, fun _ => ?_, by simp, q1, q3, rfl, q10, q11, rfl, rfl⟩
         · rw [List.mem_append, List.mem_singleton] at ha
           rcases ha with ha | rfl
           · exact hD' a ha
           · exact .of hmem hh fun a ha => hD' _ (within_iff.1 hw a ha)
         · cases b with
           | true => have := hb1 rfl; omega
           | false => rw [(hb2 rfl).1] at hlt2 ⊢; exact hlt2
 · have f1 : decide ((i : Int) < (cs.length : Int)) = false := by rw [decide_eq_false_iff_not]; omega
   have hti : cs.take i = cs := List.take_of_length_le (by omega)
   rw [hti] at hb2
   simp only [go_sem, Nat.reduceBEq, Nat.reduceAdd, Nat.reduceLeDiff, Nat.reduceSub, reduceCtorEq, ↓reduceIte, c44_0, q1, q3, q4, q10, q11, q12, f1]
   refine he _ _ ?_
   exact hQ _ l' b o2 _ hD' hb1 hb2 (by simp [upd_at, q1]) (by simp [upd_at, q3]) (by simp [upd_at, q4])
theorem wc44 {s : Sys} {h : List AObj} {clk : Nat} {Q : AV → List AObj → Nat → Prop} (hcl : s.clauses.length ≤ 2 ^ 20) (hbl : ∀ c ∈ s.clauses, c.body.length ≤ 2 ^ 20) (hQ : ∀ g l o0 o2 c, (∀ a, a ∈ l ↔ Der s.clauses a) → Q (.mp (h.length + 1) g) (h ++ [o0, .map g (nameSet l), o2]) c) : WC Gam 44 [eSys s] h clk Q := by
 refine WC_grow rfl fn44 rfl rfl rfl (az := [eSys s]) rfl (by simp [idsL, ids_sys]) fun D B R hB hBh hR => ?_
 simp only [go_sem, Nat.reduceBEq, af44, hB, eSys]
 refine K_loop (fun m q => ∃ (l : List (List Nat)) (b : Bool) (g0 g : Nat) (o2 : AObj), m = (if b then open' s.clauses l + 1 else 0) ∧ (∀ a ∈ l, Der s.clauses a) ∧ (b = false → ∀ c ∈ s.clauses, ClosedD c l) ∧ q.ts 1 = .ptr (B + 0) g0 0 0 ∧ q.ts 3 = .mp (B + 1) g ∧ q.ts 4 = .bool b ∧ q.h = D ++ [.blk g0 [.agg [.sl (s.preds.map eFunc) .no, .sl (s.clauses.map eClause) .no]] false false 0, .map g (nameSet l), o2]) (open' s.clauses [] + 1) ⟨[], true, _, _, _, rfl, by simp, by simp, rfl, rfl, rfl, rfl⟩ ?_
 rintro m ⟨ts, h, clk⟩ P ⟨l, b, g0, g, o2, rfl, hD, hb, q1, q3, q4, rfl⟩ hnx he hr
 dsimp only at q1 q3 q4
 cases b with
 | true =>
   simp only [go_sem, Nat.reduceBEq, c44_1, q1, q3, q4, hB, List.length_map]
   refine derLoop (g0 := g0) hB hcl hbl hD (by simp [upd_at, q1]) (by simp [upd_at, q3]) (by simp [upd_at]) (by simp [upd_at]) (by simp [upd_at]) (by simp [upd_at]) fun ts' l' b o2 clk' hD' hb1 hb2 r1 r3 r4 => ?_
   simp only [go_sem, Nat.reduceBEq, ]
   refine hnx (if b then open' s.clauses l' + 1 else 0) _ ?_ ⟨l', b, g0, g, o2, rfl, hD', fun hbf => ?_, r1, r3, r4, rfl⟩
   · cases b with
     | true => have := hb1 rfl; simpa using this
     | false => simp
   · obtain ⟨e1, e2⟩ := hb2 hbf
     rw [e1]; exact e2
 | false =>
   simp only [go_sem, Nat.reduceBEq, c44_1, q1, q3, q4, hB]
   refine he _ _ ?_
   simp only [go_sem, Nat.reduceBEq, q3]
   rw [RVG_some rfl]
   refine hR _ _ ⟨B + 1, by simp [oneOf, AV.cv, AV.ids], by omega⟩ fun c => ?_
   have := hQ g l (.blk g0 [.agg [.sl (s.preds.map eFunc) .no, .sl (s.clauses.map eClause) .no]] false false 0) o2 c fun a => ⟨hD a, der_all (hb rfl)⟩
   rw [← hBh] at this
   exact this
theorem WC_growS {S : List (Nat × AObj)} {f : Nat} {args az : List AV} {h : List AObj} {clk : Nat} {af : AFun} {Q : AV → List AObj → Nat → Prop} (hext : Gam.ext f = none) (hfn : Gam.fn f = some af) (hb : af.byref = []) (ho : af.owned = false) (hobs : obsL args = []) (has : cvL args = az) (hC : Cov S (idsL az)) (hS : Has S h)
   (hw : ∀ (D : List AObj) (B : Nat) (R : AV → List AObj → Prop), D.length = B → B = h.length → Has S D → (∀ p ∈ S, p.1 < B) → (∀ v L', (∃ i ∈ v.ids, B ≤ i) → (∀ c, Q v (h ++ L') c) → R v (D ++ L')) → K Gam B af.body [] ⟨entry az, D ++ List.replicate af.nslots .dead, clk⟩ (EndG af.results R)) : WC Gam f args h clk Q := by
 have hp : passArgs h af.byref 0 args = some az := by rw [hb, passArgs_cv hobs, has]
 have hl : lentSlots af.byref 0 args = [] := by rw [hb]; exact lent_nil hobs
 have hTS : ∀ i ∈ reach h (h.length + 1) [] (idsL az), i ∈ S.map (·.1) := reach_sub hS hC.closed (by simp) hC.root
 have hmask : Has S (maskFrom (reach h (h.length + 1) [] (idsL az)) 0 h) := fun p hp' => by
   rw [mask_get1 (by rw [Nat.zero_add, List.contains_eq_mem]; exact decide_eq_true (hC.cover h hS p hp'))]
   exact hS p hp'
 obtain ⟨k, e, s1, he, hne, hend⟩ := hw (maskFrom (reach h (h.length + 1) [] (idsL az)) 0 h) h.length (fun v h' => (∃ i ∈ v.ids, h.length ≤ i) ∧ (∃ L', h' = maskFrom (reach h (h.length + 1) [] (idsL az)) 0 h ++ L' ∧ ∀ c, Q v (h ++ L') c)) mask_len rfl hmask (fun p hp' => hS.lt p hp') (fun v L' hi hq => ⟨hi, L', rfl, hq⟩)
 unfold RVG at hend
 split at hend
 · rename_i vs hr
   obtain ⟨hob, ⟨i, hi1, hi2⟩, L', hL', hq⟩ := hend
   have hc := conv_cv (h := s1.h) hob
   refine ⟨k, (oneOf vs).cv, h ++ L', s1.clk, ?_, hq _⟩
   have hm : mergeFrom (reach h (h.length + 1) [] (idsL az)) 0 h s1.h = h := by
     refine merge_same fun j hj hc' => ?_
     rw [hL', List.getElem?_append_left (by rw [mask_len]; exact hj), mask_get1 hc']
   have hdrop : s1.h.drop h.length = L' := by rw [hL', List.drop_left' mask_len]
   have hall : (((oneOf vs).cv.ids ++ (List.map (fun i => (Option.map AObj.ids s1.h[i]?).getD []) (reach h (h.length + 1) [] (idsL az))).flatten).all fun x => decide (x < h.length)) = false := by
     rw [List.all_eq_false]
     exact ⟨i, List.mem_append_left _ hi1, by simp; omega⟩
   unfold callA callWith
   simp only [hext, hfn, hp, hl, freezeAll, he, ho, Bool.false_eq_true, if_false, hr, hc, hob, ite_self, hm, hdrop]
   cases e with
   | exit i => exact absurd rfl (hne i)
   | norm => simp only [hall, Bool.false_eq_true, if_false]
   | ret => simp only [hall, Bool.false_eq_true, if_false]
 · exact hend.elim
inductive Need (cs : List Clause) (Dv : List Nat → Prop) : List Nat → Prop
 | query {c : Clause} {a : App} (hc : c ∈ cs) (hh : c.head.pred = []) (hb : ∀ a ∈ c.body, Dv a.pred) (ha : a ∈ c.body) : Need cs Dv a.pred
 | of {c : Clause} {a : App} (hc : c ∈ cs) (hh : Need cs Dv c.head.pred) (hb : ∀ a ∈ c.body, Dv a.pred) (ha : a ∈ c.body) : Need cs Dv a.pred
def ClosedN (dl : List (List Nat)) (c : Clause) (l : List (List Nat)) : Prop := (c.head.pred = [] ∨ c.head.pred ∈ l) → withinB c.body dl = true → withinB c.body l = true
theorem need_all {cs : List Clause} {dl l : List (List Nat)} {Dv : List Nat → Prop} (hd : ∀ a, a ∈ dl ↔ Dv a) (hc : ∀ c ∈ cs, ClosedN dl c l) {a : List Nat} (h : Need cs Dv a) : a ∈ l := by
 induction h with
 | query hc' hh hb ha => exact within_iff.1 (hc _ hc' (.inl hh) (within_iff.2 fun a ha => (hd _).2 (hb a ha))) _ ha
 | of hc' hh hb ha ih => exact within_iff.1 (hc _ hc' (.inr ih) (within_iff.2 fun a ha => (hd _).2 (hb a ha))) _ ha
def openN (cs : List Clause) (l : List (List Nat)) : Nat := (cs.filter fun c => !withinB c.body l).length
theorem openN_le {cs : List Clause} {l l' : List (List Nat)} (h : ∀ a ∈ l, a ∈ l') : openN cs l' ≤ openN cs l := by
 unfold openN
 rw [← List.countP_eq_length_filter, ← List.countP_eq_length_filter]
 refine List.countP_mono_left fun c _ hc => ?_
 simp only [Bool.not_eq_true'] at hc ⊢
 cases hw : withinB c.body l with
 | false => rfl
 | true =>
   have : withinB c.body l' = true := within_iff.2 fun a ha => h _ (within_iff.1 hw a ha)
   rw [this] at hc
   cases hc
theorem openN_lt {cs : List Clause} {l l' : List (List Nat)} {c : Clause} (hc : c ∈ cs) (hn : withinB c.body l = false) (hn' : withinB c.body l' = true) (h : ∀ a ∈ l, a ∈ l') : openN cs l' < openN cs l := by
 unfold openN
 induction cs with
 | nil => simp at hc
 | cons d cs ih =>
   have hle := openN_le (cs := cs) h
   unfold openN at hle
   rw [List.mem_cons] at hc
   rcases hc with rfl | hc
   · simp only [List.filter_cons, hn, hn', Bool.not_true, Bool.not_false, if_true, Bool.false_eq_true, if_false, List.length_cons]
     omega
   · have := ih hc
     have h2 := openN_le (cs := [d]) h
     unfold openN at h2
     simp only [List.filter_cons, List.filter_nil] at h2 ⊢
     split <;> split <;> simp_all <;> omega
def addN (l : List (List Nat)) (a : List Nat) : List (List Nat) := if a ∈ l then l else l ++ [a]
theorem mem_addN {l : List (List Nat)} {a b : List Nat} : b ∈ addN l a ↔ b ∈ l ∨ b = a := by
 unfold addN
 split
 · rename_i h
   constructor
   · exact .inl
   · rintro (h2 | rfl)
     · exact h2
     · exact h
 · rw [List.mem_append, List.mem_singleton]
theorem putKey_addN {a : List Nat} {l : List (List Nat)} : putKey (.one .str) (.str a) (.bool true) (nameSet l) = some (nameSet (addN l a)) := by
 unfold addN
 split
 · rename_i h
   induction l with
   | nil => simp at h
   | cons b l ih =>
     unfold nameSet at ih ⊢
     simp only [List.map_cons, putKey, AV.eqv, AV.eq1]
     by_cases hab : a = b
     · subst hab
       simp
     · have : a ∈ l := by
         rw [List.mem_cons] at h
         exact h.resolve_left hab
       simp only [hab, decide_false, ih this, Option.map_some]
 · exact putKey_set (by assumption)
def addAll (l : List (List Nat)) (b : List App) : List (List Nat) := b.foldl (fun l a => addN l a.pred) l
theorem mem_addAll {b : List App} : ∀ {l : List (List Nat)} {x : List Nat}, x ∈ addAll l b ↔ x ∈ l ∨ ∃ a ∈ b, x = a.pred := by
 induction b with
 | nil => intro l x; simp [addAll]
 | cons c b ih =>
   intro l x
   have : addAll l (c :: b) = addAll (addN l c.pred) b := rfl
   rw [this, ih, mem_addN]
   simp only [List.mem_cons, exists_eq_or_imp, or_assoc]
theorem addAll_take {b : List App} {l : List (List Nat)} {i : Nat} (hi : i < b.length) : addAll l (b.take (i + 1)) = addN (addAll l (b.take i)) b[i].pred := by
 unfold addAll
 rw [List.take_succ_eq_append_getElem hi, List.foldl_append]
 rfl
theorem needBody {body : List App} {B clk g0 g sD gD : Nat} {D : List AObj} {o0 o2 o3 : AObj} {l : List (List Nat)} {v14 v15 v16 : AV} {ts : Tmps} {ks : List Kf} {Q : Post} (hB : D.length = B) (hbl : body.length ≤ 2 ^ 20) (h1 : ts 1 = .mp sD gD) (h2 : ts 2 = .ptr (B + 0) g0 0 0) (h5 : ts 5 = .mp (B + 1) g) (h14 : ts 14 = v14) (h15 : ts 15 = v15) (h16 : ts 16 = v16) (h46 : ts 46 = .sl (body.map eApp) .no) (h47 : ts 47 = .int .i64 (body.length : Int)) (h48 : ts 48 = .int .i64 0)
   (hQ : ∀ (ts' : Tmps) (o3 : AObj) (clk' : Nat), ts' 1 = .mp sD gD → ts' 2 = .ptr (B + 0) g0 0 0 → ts' 5 = .mp (B + 1) g → ts' 14 = v14 → ts' 15 = v15 → ts' 16 = v16 → K Gam B (.exit 4) ks ⟨ts', D ++ [o0, .map g (nameSet (addAll l body)), o2, o3], clk'⟩ Q) :
   K Gam B (.loop c45_0) ks ⟨ts, D ++ [o0, .map g (nameSet l), o2, o3], clk⟩ Q := by
 refine K_loop (fun m q => ∃ (i : Nat) (o3 : AObj), i ≤ body.length ∧ m = body.length - i ∧ q.ts 1 = .mp sD gD ∧ q.ts 2 = .ptr (B + 0) g0 0 0 ∧ q.ts 5 = .mp (B + 1) g ∧ q.ts 14 = v14 ∧ q.ts 15 = v15 ∧ q.ts 16 = v16 ∧ q.ts 46 = .sl (body.map eApp) .no ∧ q.ts 47 = .int .i64 (body.length : Int) ∧ q.ts 48 = .int .i64 (i : Int) ∧ q.h = D ++ [o0, .map g (nameSet (addAll l (body.take i))), o2, o3]) body.length ⟨0, o3, by omega, rfl, h1, h2, h5, h14, h15, h16, h46, h47, h48, rfl⟩ ?_
 clear h1 h2 h5 h14 h15 h16 h46 h47 h48
 rintro m ⟨ts, h, clk⟩ P ⟨i, o3, hi, rfl, q1, q2, q5, q14, q15, q16, q46, q47, q48, rfl⟩ hnx he hr
 dsimp only at q1 q2 q5 q14 q15 q16 q46 q47 q48
 by_cases hlt : i < body.length
 · have f1 : decide ((i : Int) < (body.length : Int)) = true := by rw [decide_eq_true_iff]; omega
   have f2 : IntKind.i64.wrap ((i : Int) + 1) = ((i + 1 : Nat) : Int) := wrap_i64 (by omega) (by omega)
   have hix : ∀ h, idxAV h 2 (.sl (body.map eApp) .no) (.int .i64 (i : Int)) = some (.iptr [.str body[i].pred, .sl (body[i].args.map eTerm) .no] 0, h) := fun h => idx_map hlt rfl rfl
   have hat := addAll_take (l := l) hlt
   generalize body[i] = a at hix hat
   have hmu : ∀ L : List AObj, mapAt L 1 g = some (nameSet (addAll l (body.take i))) → muV (D ++ L) (.one .str) (.str a.pred) (.bool true) (.mp (B + 1) g) = some (.undef, D ++ L.set 1 (.map g (nameSet (addAll l (body.take (i + 1)))))) := fun L hL => by
     rw [hat]
     exact mu_loc (v := .bool true) hB hL rfl putKey_addN
   simp only [go_sem, Nat.reduceBEq, Nat.reduceAdd, Nat.reduceLeDiff, Nat.reduceSub, reduceCtorEq, ↓reduceIte, c45_0, q1, q2, q5, q14, q15, q16, q46, q47, q48, hB, f1, hix, hmu, f2]
   exact hnx (body.length - (i + 1)) _ (by omega) ⟨i + 1, _, hlt, rfl, q1, q2, q5, q14, q15, q16, q46, q47, rfl, rfl⟩
 · have f1 : decide ((i : Int) < (body.length : Int)) = false := by rw [decide_eq_false_iff_not]; omega
   have hti : body.take i = body := List.take_of_length_le (by omega)
   simp only [go_sem, Nat.reduceBEq, Nat.reduceAdd, Nat.reduceLeDiff, Nat.reduceSub, reduceCtorEq, ↓reduceIte, c45_0, q1, q2, q5, q14, q15, q16, q46, q47, q48, f1]
   refine he _ _ ?_
   rw [hti]
   exact hQ _ o3 _ (by simp [upd_at, q1]) (by simp [upd_at, q2]) (by simp [upd_at, q5]) (by simp [upd_at, q14]) (by simp [upd_at, q15]) (by simp [upd_at, q16])
end Go.Proofs.YtbeooboebfbchaaGreatDoor.Am
