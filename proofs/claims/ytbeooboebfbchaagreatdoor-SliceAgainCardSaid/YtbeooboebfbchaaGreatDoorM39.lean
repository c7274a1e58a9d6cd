/- Walking: rows are handed over; limbs are trimmed. Walking: limbs are compared and divided by a limb. Walking: limbs are divided by a limb (2). Walking: the greatest common divisor with a limb. Walking: digits are read as limbs. Walking: short digits are read as a number. -/
import Derived.Test.YtbeooboebfbchaaGreatDoorM38
set_option linter.unusedVariables false
set_option linter.unusedSimpArgs false
namespace Go.Proofs.YtbeooboebfbchaaGreatDoor.Am
open Go
set_option maxRecDepth 100000
theorem freeze_len : ∀ {os : List (Nat × Nat)} {h : List AObj}, (freezeAll h os).length = h.length
 | [], _ => rfl
 | o :: os, h => by
   simp only [freezeAll]
   rw [freeze_len]
   split
   · rw [List.length_set]
   · rfl
theorem callA_conv {f : Nat} {args az : List AV} {h : List AObj} {clk : Nat} {v : AV} {af : AFun} (hp : Pure Gam f az v) (hext : Gam.ext f = none) (hfn : Gam.fn f = some af) (hb : af.byref = []) (ho : af.owned = false) (hpa : passArgs h [] 0 args = some az) (hcv : cvL az = az) (hobs : obsL az = []) (hids : idsL az = []) (hv : v.ids = []) :
   ∃ k, callA Gam k f args h clk = some (v, if v.flat then h else freezeAll h (lentSlots [] 0 args), clk) := by
 obtain ⟨⟨k, hk⟩, _⟩ := hp (freezeAll h (lentSlots [] 0 args)) clk
 refine ⟨k, ?_⟩
 have hpa2 : passArgs (freezeAll h (lentSlots [] 0 args)) [] 0 az = some az := by rw [passArgs_cv hobs, hcv]
 have hl2 : lentSlots [] 0 az = [] := lent_nil hobs
 unfold callA callWith at hk ⊢
 simp only [hext, hfn, hb, hpa, hpa2, hl2, hids, reach, freezeAll, freeze_len, mask_len, ho, Bool.false_eq_true, if_false] at hk ⊢
 generalize exec Gam k h.length af.body _ = E at hk ⊢
 match E, hk with
 | none, hk => cases hk
 | some (.exit i, s), hk => cases hk
 | some (.norm, s), hk =>
   simp only at hk ⊢
   generalize resultsA s.h s.ts af.results = R at hk ⊢
   cases R with
   | none => cases hk
   | some vs =>
     simp only at hk ⊢
     generalize conv s.h (oneOf vs) = W at hk ⊢
     cases W with
     | none => cases hk
     | some w =>
       simp only at hk ⊢
       have hw : w = v := by
         revert hk
         generalize List.all _ _ = b
         cases b
         · intro hk
           simp only [Bool.false_eq_true, if_false, Option.some.injEq, Prod.mk.injEq] at hk
           exact hk.1
         · intro hk
           simp only [if_true, Option.some.injEq, Prod.mk.injEq] at hk
           exact hk.1
       subst hw
       simp only [hv, List.isEmpty_nil, Bool.and_true, List.map_nil, List.flatten_nil, List.append_nil, List.all_nil, if_true, merge_nil]
 | some (.ret, s), hk =>
   simp only at hk ⊢
   generalize resultsA s.h s.ts af.results = R at hk ⊢
   cases R with
   | none => cases hk
   | some vs =>
     simp only at hk ⊢
     generalize conv s.h (oneOf vs) = W at hk ⊢
     cases W with
     | none => cases hk
     | some w =>
       simp only at hk ⊢
       have hw : w = v := by
         revert hk
         generalize List.all _ _ = b
         cases b
         · intro hk
           simp only [Bool.false_eq_true, if_false, Option.some.injEq, Prod.mk.injEq] at hk
           exact hk.1
         · intro hk
           simp only [if_true, Option.some.injEq, Prod.mk.injEq] at hk
           exact hk.1
       subst hw
       simp only [hv, List.isEmpty_nil, Bool.and_true, List.map_nil, List.flatten_nil, List.append_nil, List.all_nil, if_true, merge_nil]
theorem CK_conv {f base gg clk : Nat} {args az : List AV} {h : List AObj} {v : AV} {af : AFun} {dst : Option Nat} {os : List AOper} {ts : Tmps} {ks : List Kf} {Q : Post} (hp : Pure Gam f az v) (hext : Gam.ext f = none) (hfn : Gam.fn f = some af) (hb : af.byref = []) (ho : af.owned = false) (hpa : passArgs h [] 0 args = some az) (hcv : cvL az = az) (hobs : obsL az = []) (hids : idsL az = []) (hv : v.ids = []) :
   CK Gam base f args h clk .plain dst gg os ts ks Q = O Gam base .plain (gg + 1) os ⟨putA ts dst v, if v.flat then h else freezeAll h (lentSlots [] 0 args), clk⟩ ks Q := by
 obtain ⟨k, hk⟩ := callA_conv (clk := clk) hp hext hfn hb ho hpa hcv hobs hids hv
 unfold CK
 apply propext
 constructor
 · rintro ⟨k', v', h', c, hc, hq⟩
   have := callA_det hk hc
   simp only [Prod.mk.injEq] at this
   obtain ⟨rfl, rfl, rfl⟩ := this
   exact hq
 · intro hq
   exact ⟨k, _, _, _, hk, hq⟩
def limb (x : Nat) : AV := .int .u32 (x : Int)
theorem ids_limbs {l : List Nat} : idsL (l.map limb) = [] := idsL_map fun _ => rfl
theorem cells_limbs {l : List Nat} : allCells 1 (l.map limb) = true := allCells_map fun _ => ⟨rfl, rfl, rfl⟩
theorem RV_limbs {T : List Nat} {l : List Nat} {t : Tip} {R : AV → List AObj → Prop} {h : List AObj} : RV T (some [.sl (l.map limb) t]) R h = R (.sl (l.map limb) .no) h := RV_one rfl (by simp [AV.cv, AV.ids, ids_limbs])
theorem RV_limbs2 {T : List Nat} {l l' : List Nat} {t t' : Tip} {R : AV → List AObj → Prop} {h : List AObj} : RV T (some [.sl (l.map limb) t, .sl (l'.map limb) t']) R h = R (.tup [.sl (l.map limb) .no, .sl (l'.map limb) .no]) h := RV_some rfl (by simp [oneOf, AV.cv, cvL, AV.ids, idsL, ids_limbs])
theorem limb_idx {l : List Nat} {i : Nat} {h : List AObj} {t : Tip} {k : IntKind} (hi : i < l.length) : idxAV h 1 (.sl (l.map limb) t) (.int k (i : Int)) = some (.iptr [.int .u32 (l[i] : Int)] 0, h) := idxAV_sl (e := .int .u32 (l[i] : Int)) (by simp [limb, hi]) rfl
theorem limb_to {l : List Nat} {n : Nat} {h : List AObj} (hn : n ≤ l.length) : slV h (some 1) (.sl (l.map limb) .no) none (some (.int .i64 (n : Int))) none = some (.sl ((l.take n).map limb) .no, h) := by
 have hh : headLen 1 (l.map limb) = true := by cases l <;> rfl
 have hn' : n ≤ (l.map limb).length := by rw [List.length_map]; exact hn
 simp [slV, sliceVal, bound, hh, hn]
theorem lval_take_zero {l : List Nat} {n : Nat} (hn : n < l.length) (h0 : l[n] = 0) : lval (l.take (n + 1)) = lval (l.take n) := by
 rw [List.take_succ_eq_append_getElem hn, lval_append, h0]
 simp [lval]
theorem pure280 {l : List Nat} {t : Tip} (hb : ∀ x ∈ l, x < 1000000000) (hl : l.length ≤ 1000) : Pure Gam 280 [.sl (l.map limb) t] (.sl ((nl (lval l)).map limb) .no) := by
 refine Pure.of rfl fn280 rfl rfl rfl (az := [.sl (l.map limb) .no]) rfl (by simp [idsL, AV.ids, AV.cv, ids_limbs]) fun D B clk T hB hT => ?_
 simp only [go_sem, Nat.reduceBEq, af280, List.length_map]
 refine K_loop (fun m q => m ≤ l.length ∧ lval (l.take m) = lval l ∧ q.ts 0 = .sl (l.map limb) .no ∧ q.ts 3 = .int .i64 (m : Int) ∧ q.h = D ++ []) l.length ⟨Nat.le_refl _, by rw [List.take_length], rfl, rfl, rfl⟩ ?_
 rintro m ⟨ts, h, clk⟩ P ⟨hm, hv, h0, h3, rfl⟩ hn he hr
 dsimp only at h0 h3
 have fin : nl (lval l) = l.take m → ∀ (ts' : Tmps) (clk' : Nat), ts' 0 = .sl (l.map limb) .no → ts' 3 = .int .i64 (m : Int) → P (.exit 0) ⟨ts', D ++ [], clk'⟩ := by
   intro hc ts' clk' q0 q3
   refine he _ _ ?_
   simp only [go_sem, Nat.reduceBEq, q0, q3, limb_to hm]
   rw [RV_limbs, ← hc]
   exact hT _
 rcases Nat.eq_zero_or_pos m with rfl | hpos
 · have e1 : decide ((0 : Int) < 0) = false := rfl
   simp only [go_sem, Nat.reduceBEq, h0, h3, c280_0, e1]
   exact fin (by rw [← hv, List.take_zero]; exact nl_zero) _ _ h0 h3
 · have e1 : decide ((0 : Int) < (m : Int)) = true := by rw [decide_eq_true_iff]; omega
   have e2 : IntKind.i64.wrap ((m : Int) - 1) = ((m - 1 : Nat) : Int) := by rw [wrap_i64 (by omega) (by omega)]; omega
   have hlt : m - 1 < l.length := by omega
   by_cases hz : l[m - 1] = 0
   · have e3 : decide (((l[m - 1] : Nat) : Int) = 0) = true := by rw [decide_eq_true_iff]; omega
     simp only [go_sem, Nat.reduceBEq, h0, h3, c280_0, e1, e2, limb_idx hlt, e3]
     refine hn (m - 1) _ (by omega) ⟨by omega, ?_, h0, rfl, rfl⟩
     rw [← hv, ← lval_take_zero hlt hz, show m - 1 + 1 = m by omega]
   · have e3 : decide (((l[m - 1] : Nat) : Int) = 0) = false := by rw [decide_eq_false_iff_not]; omega
     simp only [go_sem, Nat.reduceBEq, h0, h3, c280_0, e1, e2, limb_idx hlt, e3]
     refine fin ?_ _ _ h0 h3
     rw [← hv]
     refine nl_lval (fun x hx => hb x (List.mem_of_mem_take hx)) fun l' e => hz ?_
     have h1 : l.take m = l.take (m - 1) ++ [l[m - 1]] := by
       have := List.take_succ_eq_append_getElem hlt
       rwa [show m - 1 + 1 = m by omega] at this
     rw [h1] at e
     have := List.append_inj' e rfl
     simpa using this.2
theorem u64_in {n : Int} (h1 : 0 ≤ n) (h2 : n ≤ 18446744073709551615) : IntKind.u64.wrap n = n := IntWalk.u64_in _ ⟨h1, h2⟩
theorem u32_in {n : Int} (h1 : 0 ≤ n) (h2 : n ≤ 4294967295) : IntKind.u32.wrap n = n := IntWalk.u32_in _ ⟨h1, h2⟩
theorem lval_split (l : List Nat) (k : Nat) : lval l = lval (l.take k) + 1000000000 ^ (l.take k).length * lval (l.drop k) := by
 rw [← lval_append, List.take_append_drop]
theorem lval_less {a b : List Nat} {k : Nat} (ha : ∀ x ∈ a, x < 1000000000) (hl : a.length = b.length) (hka : k < a.length) (hkb : k < b.length) (hd : a.drop (k + 1) = b.drop (k + 1)) (h : a[k] < b[k]) : lval a < lval b := by
 rw [lval_split a k, lval_split b k, List.drop_eq_getElem_cons hka, List.drop_eq_getElem_cons hkb, hd]
 have h1 : (a.take k).length = k := by simp; omega
 have h2 : (b.take k).length = k := by simp; omega
 have h3 := lval_lt (l := a.take k) fun x hx => ha x (List.mem_of_mem_take hx)
 rw [h1] at h3
 rw [h1, h2]
 have h4 : 1000000000 ^ k * (1 + lval (a[k] :: b.drop (k + 1))) ≤ 1000000000 ^ k * lval (b[k] :: b.drop (k + 1)) := Nat.mul_le_mul_left _ (by simp only [lval]; omega)
 rw [Nat.mul_add] at h4
 omega
theorem nl_len_le {x y : Nat} (h : x ≤ y) : (nl x).length ≤ (nl y).length := by
 induction y using Nat.strongRecOn generalizing x with
 | ind y ih =>
   rcases Nat.eq_zero_or_pos x with rfl | hx
   · rw [nl_zero]; simp
   · rw [nl_pos hx, nl_pos (n := y) (by omega), List.length_cons, List.length_cons]
     have := ih (y / 1000000000) (by omega) (x := x / 1000000000) (Nat.div_le_div_right h)
     omega
theorem K_unroll {base : Nat} {b : ACode} {ks : List Kf} {s : St} {Q : Post} (h : K Gam base b (.seq (.loop b) :: ks) s Q) : K Gam base (.loop b) ks s Q := by
 rw [← K_seq] at h
 have : ∀ Q, W Gam base (.seq b (.loop b)) s Q = W Gam base (.loop b) s Q := fun Q => by
   apply propext
   constructor
   · rintro ⟨k, e, s', h, hq⟩
     cases k with
     | zero => cases h
     | succ k => exact ⟨k + 1, e, s', h, hq⟩
   · rintro ⟨k, e, s', h, hq⟩
     cases k with
     | zero => cases h
     | succ k => exact ⟨k + 1, e, s', h, hq⟩
 rw [K_of_W this] at h
 exact h
theorem idxAV_zero {h : List AObj} {K k : IntKind} {n : Int} {xs : List AV} {t : Tip} : idxAV h 1 (.sl (.int K n :: xs) t) (.int k 0) = some (.iptr [.int K n] 0, h) := idxAV_sl (i := 0) (e := .int K n) rfl rfl
theorem pure288 {x y : Nat} (hx : (nl x).length ≤ 1000) (hy : (nl y).length ≤ 1000) : ∃ r : Int, (r < 0 ↔ x < y) ∧ (r = 0 ↔ x = y) ∧ Pure Gam 288 [.sl ((nl x).map limb) .no, .sl ((nl y).map limb) .no] (.int .i64 r) := by
 have hbx := nl_lt x
 have hby := nl_lt y
 by_cases hl : (nl x).length = (nl y).length
 · -- the first difference from above
   have e1 : decide (((nl x).length : Int) = ((nl y).length : Int)) = true := by rw [decide_eq_true_iff]; omega
   have key : ∀ m, m ≤ (nl x).length → (nl x).drop m = (nl y).drop m → ∃ r : Int, (r < 0 ↔ x < y) ∧ (r = 0 ↔ x = y) ∧ ∀ (D : List AObj) (B clk : Nat) (T : AV → List AObj → Prop) (ks : List Kf) (ts : Tmps) (Q : Post), ts 0 = .sl ((nl x).map limb) .no → ts 1 = .sl ((nl y).map limb) .no → ts 5 = .int .i64 ((m : Int) - 1) →
       (∀ ts' clk', ts' 4 = .int .i64 r → K Gam B .ret ks ⟨ts', D ++ [], clk'⟩ Q) → (r = 0 → ∀ ts' clk', K Gam B (.exit 0) ks ⟨ts', D ++ [], clk'⟩ Q) → K Gam B (.loop c288_0) ks ⟨ts, D ++ [], clk⟩ Q := by
     intro m
     induction m with
     | zero =>
       intro _ hd
       have hxy : x = y := by
         rw [List.drop_zero, List.drop_zero] at hd
         rw [← lval_nl x, ← lval_nl y, hd]
       refine ⟨0, by omega, by simp [hxy], fun D B clk T ks ts Q h0 h1 h5 _ hx => ?_⟩
       refine K_loop (fun _ q => q.ts 5 = .int .i64 (-1) ∧ q.h = D ++ []) 0 ⟨by simpa using h5, rfl⟩ ?_
       rintro m ⟨ts, h, clk⟩ P ⟨h5, rfl⟩ hn he hr
       dsimp only at h5
       simp only [go_sem, Nat.reduceBEq, h5, c288_0, Int.reduceLE, Int.reduceNeg, decide_false]
       exact he _ _ (hx rfl _ _)
     | succ m ih =>
       intro hm hd
       have hkx : m < (nl x).length := by omega
       have hky : m < (nl y).length := by omega
       have e2 : decide ((0 : Int) ≤ ((m + 1 : Nat) : Int) - 1) = true := by rw [decide_eq_true_iff]; omega
       have e3 : ((m + 1 : Nat) : Int) - 1 = (m : Int) := by omega
       have e4 : decide ((0 : Int) ≤ (m : Int)) = true := by rw [decide_eq_true_iff]; omega
       have hxm := hbx _ (List.getElem_mem hkx)
       have hym := hby _ (List.getElem_mem hky)
       have w1 : ∀ z : Nat, z < 1000000000 → IntKind.i64.wrap (z : Int) = (z : Int) := fun z hz => wrap_i64 (by omega) (by omega)
       have w2 := w1 _ hxm
       have w3 := w1 _ hym
       by_cases hne : (nl x)[m] = (nl y)[m]
       · obtain ⟨r, h1, h2, h3⟩ := ih (by omega) (by rw [List.drop_eq_getElem_cons hkx, List.drop_eq_getElem_cons hky, hd, hne])
         refine ⟨r, h1, h2, fun D B clk T ks ts Q q0 q1 q5 hr hx => ?_⟩
         rw [e3] at q5
         have e5 : decide (((nl x)[m] : Int) = ((nl y)[m] : Int)) = true := by rw [decide_eq_true_iff]; omega
         have e6 : IntKind.i64.wrap ((m : Int) - 1) = (m : Int) - 1 := wrap_i64 (by omega) (by omega)
         refine K_unroll ?_
         simp only [go_sem, Nat.reduceBEq, q0, q1, q5, c288_0, e4, limb_idx hkx, limb_idx hky, e5, Bool.not_true, e6]
         exact h3 D B _ T ks _ Q (by simp [upd_at, q0]) (by simp [upd_at, q1]) (by simp [upd_at]) hr hx
       · refine ⟨((nl x)[m] : Int) - ((nl y)[m] : Int), ?_, ?_, fun D B clk T ks ts Q q0 q1 q5 hr hx => ?_⟩
         · constructor
           · intro h
             have := lval_less hbx hl hkx hky hd (by omega)
             rwa [lval_nl, lval_nl] at this
           · intro h
             refine Classical.byContradiction fun hc => ?_
             have := lval_less hby hl.symm hky hkx hd.symm (by omega)
             rw [lval_nl, lval_nl] at this
             omega
         · constructor
           · intro h; omega
           · intro h; subst h; omega
         · rw [e3] at q5
           have e5 : decide (((nl x)[m] : Int) = ((nl y)[m] : Int)) = false := by rw [decide_eq_false_iff_not]; omega
           have e6 : IntKind.i64.wrap (((nl x)[m] : Int) - ((nl y)[m] : Int)) = ((nl x)[m] : Int) - ((nl y)[m] : Int) := wrap_i64 (by omega) (by omega)
           refine K_unroll ?_
           simp only [go_sem, Nat.reduceBEq, q0, q1, q5, c288_0, e4, limb_idx hkx, limb_idx hky, e5, Bool.not_false, w2, w3, e6]
           exact hr _ _ (by simp [upd_at])
   obtain ⟨r, h1, h2, h3⟩ := key (nl x).length (Nat.le_refl _) (by rw [List.drop_length, hl, List.drop_length])
   refine ⟨r, h1, h2, Pure.of rfl fn288 rfl rfl rfl (az := [.sl ((nl x).map limb) .no, .sl ((nl y).map limb) .no]) rfl (by simp [idsL, AV.ids, AV.cv, ids_limbs]) fun D B clk T hB hT => ?_⟩
   have e2 : IntKind.i64.wrap (((nl x).length : Int) - 1) = ((nl x).length : Int) - 1 := wrap_i64 (by omega) (by omega)
   have e3 : IntKind.i64.wrap (((nl y).length : Int) - 1) = ((nl x).length : Int) - 1 := by rw [wrap_i64 (by omega) (by omega)]; omega
   simp only [go_sem, Nat.reduceBEq, af288, List.length_map, e1, Bool.not_true, e2]
   refine h3 D B _ T _ _ _ (by simp [upd_at, entry_zero]) (by simp [upd_at, entry_succ, entry_zero]) (by simp [upd_at]) (fun ts' clk' q4 => ?_) (fun hr0 ts' clk' => ?_)
   · simp only [go_sem, Nat.reduceBEq, q4]
     rw [RV_int]
     exact hT _
   · simp only [go_sem, Nat.reduceBEq, ]
     rw [RV_int, ← hr0]
     exact hT _
 · have e1 : decide (((nl x).length : Int) = ((nl y).length : Int)) = false := by rw [decide_eq_false_iff_not]; omega
   have e2 : IntKind.i64.wrap (((nl x).length : Int) - ((nl y).length : Int)) = ((nl x).length : Int) - ((nl y).length : Int) := wrap_i64 (by omega) (by omega)
   refine ⟨((nl x).length : Int) - ((nl y).length : Int), ?_, ?_, Pure.of rfl fn288 rfl rfl rfl (az := [.sl ((nl x).map limb) .no, .sl ((nl y).map limb) .no]) rfl (by simp [idsL, AV.ids, AV.cv, ids_limbs]) fun D B clk T hB hT => ?_⟩
   · constructor
     · intro h
       refine Classical.byContradiction fun hc => ?_
       have := nl_len_le (x := y) (y := x) (by omega)
       omega
     · intro h
       have := nl_len_le (x := x) (y := y) (by omega)
       omega
   · constructor
     · intro h; omega
     · intro h; subst h; omega
   · simp only [go_sem, Nat.reduceBEq, af288, List.length_map, e1, Bool.not_false, e2]
     rw [RV_int]
     exact hT _
theorem pure275 {l : List Nat} : Pure Gam 275 [.sl (l.map limb) .no] (.bool (decide (l = [1]))) := by
 refine Pure.of rfl fn275 rfl rfl rfl (az := [.sl (l.map limb) .no]) rfl (by simp [idsL, AV.ids, AV.cv, ids_limbs]) fun D B clk T hB hT => ?_
 match l with
 | [] =>
   simp only [go_sem, Nat.reduceBEq, af275, List.map_nil, Int.cast_ofNat_Int, Int.reduceEq, decide_false]
   rw [RV_bool]
   exact hT _
 | [x] =>
   have e : decide ((x : Int) = 1) = decide ([x] = [1]) := by rw [decide_eq_decide]; simp; omega
   simp only [go_sem, Nat.reduceBEq, af275, limb, List.map_cons, List.map_nil, Nat.zero_add, Int.cast_ofNat_Int, decide_true, idxAV_zero, e]
   rw [RV_bool]
   exact hT _
 | x :: y :: l =>
   have e : decide (((l.length + 1 + 1 : Nat) : Int) = 1) = false := by rw [decide_eq_false_iff_not]; omega
   have e2 : decide (x :: y :: l = [1]) = false := by simp
   rw [e2] at hT
   simp only [go_sem, Nat.reduceBEq, af275, List.length_map, List.map_cons, e]
   rw [RV_bool]
   exact hT _
theorem lval_drop {l : List Nat} {k : Nat} (h : k < l.length) : lval (l.drop k) = l[k] + 1000000000 * lval (l.drop (k + 1)) := by
 rw [List.drop_eq_getElem_cons h, lval]
theorem freeze_row {D L : List AObj} {B k g n : Nat} {es : List AV} {w : Bool} (hB : D.length = B) (hL : L[k]? = some (.blk g es true w 0)) : freezeAll (D ++ L) [(B + k, n)] = D ++ L.set k (.blk g es true w n) := by
 have hg : (D ++ L)[B + k]? = some (.blk g es true w 0) := by rw [loc_get hB]; exact hL
 simp only [freezeAll, hg, loc_set hB, Nat.zero_max]
theorem pure289 {la : List Nat} {b : Nat} (ha : ∀ x ∈ la, x < 1000000000) (hl : la.length ≤ 1000) (hb0 : 0 < b) (hb : b < 1000000000) : Pure Gam 289 [.sl (la.map limb) .no, .int .u32 (b : Int)] (.tup [.sl ((nl (lval la / b)).map limb) .no, .sl ((nl (lval la % b)).map limb) .no]) := by
 refine Pure.of rfl fn289 rfl rfl rfl (az := [.sl (la.map limb) .no, .int .u32 (b : Int)]) rfl (by simp [idsL, AV.ids, AV.cv, ids_limbs]) fun D B clk T hB hT => ?_
 have e0 : IntKind.i64.wrap ((la.length : Int) - 1) = (la.length : Int) - 1 := wrap_i64 (by omega) (by omega)
 have hms : ∀ h s g, msV h s g (.int .u32 0) 4 (.int .i64 (la.length : Int)) (.int .i64 (la.length : Int)) = some (.ob s g 0 la.length, h.set s (.blk g (List.replicate la.length (.int .u32 0)) true false 0)) := fun h s g => msV_ok rfl (by omega)
 simp only [go_sem, Nat.reduceBEq, af289, List.length_map, hB, hms, e0]
 generalize hgr : clk + 2 + 2 = gr
 refine K_loop (fun m q => ∃ (i r : Nat) (qs : List Nat), i ≤ la.length ∧ m = la.length - i ∧ qs.length = i ∧ (∀ x ∈ qs, x < 1000000000) ∧ r < b ∧ lval (la.drop (la.length - i)) = b * lval qs + r ∧ q.ts 0 = .sl (la.map limb) .no ∧ q.ts 1 = .int .u32 (b : Int) ∧ q.ts 6 = .ob (B + 0) gr 0 la.length ∧ q.ts 7 = .int .u64 (r : Int) ∧ q.ts 8 = .int .i64 ((la.length : Int) - i - 1) ∧
   q.h = D ++ [.blk gr (List.replicate (la.length - i) (.int .u32 0) ++ qs.map limb) true false 0, .dead]) la.length ?_ ?_
 · refine ⟨0, 0, [], by omega, rfl, rfl, by simp, hb0, by simp [lval], rfl, rfl, ?_, rfl, by simp [upd_at], by simp⟩
   subst hgr; rfl
 rintro m ⟨ts, h, clk⟩ P ⟨i, r, qs, hi, rfl, hql, hqb, hr, hw, h0, h1, h6, h7, h8, rfl⟩ hn he hrt
 dsimp only at h0 h1 h6 h7 h8
 by_cases hlt : i < la.length
 · have hk : la.length - 1 - i < la.length := by omega
   have e1 : (la.length : Int) - i - 1 = ((la.length - 1 - i : Nat) : Int) := by omega
   rw [e1] at h8
   have e2 : decide ((0 : Int) ≤ ((la.length - 1 - i : Nat) : Int)) = true := by rw [decide_eq_true_iff]; omega
   have hx := ha _ (List.getElem_mem hk)
   have hdr := lval_drop hk
   generalize hxx : la[la.length - 1 - i] = x at hx hdr
   rw [show la.length - 1 - i + 1 = la.length - i by omega, hw] at hdr
   have hv : r * 1000000000 + x < b * 1000000000 := by
     have : (r + 1) * 1000000000 ≤ b * 1000000000 := Nat.mul_le_mul_right _ hr
     omega
   have hv2 : b * 1000000000 < 1000000000 * 1000000000 := Nat.mul_lt_mul_of_pos_right hb (by omega)
   have hquo : (r * 1000000000 + x) / b < 1000000000 := (Nat.div_lt_iff_lt_mul hb0).2 (by rw [Nat.mul_comm 1000000000 b]; exact hv)
   have hrem : (r * 1000000000 + x) % b < b := Nat.mod_lt _ hb0
   have hdm := Nat.div_add_mod (r * 1000000000 + x) b
   generalize hq : (r * 1000000000 + x) / b = y at hquo hdm
   generalize hz : (r * 1000000000 + x) % b = z at hrem hdm
   have hidx0 : ∀ h, idxAV h 1 (.sl (la.map limb) .no) (.int .i64 ((la.length - 1 - i : Nat) : Int)) = some (.iptr [.int .u32 (x : Int)] 0, h) := fun h => by rw [limb_idx hk, hxx]
   have w1 : IntKind.u64.wrap ((r : Int) * 1000000000) = ((r * 1000000000 : Nat) : Int) := by rw [u64_in (by omega) (by omega)]; omega
   have w2 : IntKind.u64.wrap (x : Int) = (x : Int) := u64_in (by omega) (by omega)
   have w3 : IntKind.u64.wrap (((r * 1000000000 : Nat) : Int) + (x : Int)) = ((r * 1000000000 + x : Nat) : Int) := by rw [u64_in (by omega) (by omega)]; omega
   have w4 : IntKind.u64.wrap (b : Int) = (b : Int) := u64_in (by omega) (by omega)
   have w5 : IntKind.u32.wrap (IntKind.u64.wrap ((((r * 1000000000 + x : Nat) : Int)).tdiv (b : Int))) = (y : Int) := by
     rw [IntWalk.up_tdiv rfl rfl, hq, u64_in (by omega) (by omega), u32_in (by omega) (by omega)]
   have w6 : (((r * 1000000000 + x : Nat) : Int)).tmod (b : Int) = (z : Int) := by rw [IntWalk.up_tmod rfl rfl, hz]
   have hbn : (b : Int) ≠ 0 := by omega
   have hidx : idxAV (D ++ [.blk gr (List.replicate (la.length - i) (.int .u32 0) ++ qs.map limb) true false 0, .dead]) 1 (.ob (B + 0) gr 0 la.length) (.int .i64 ((la.length - 1 - i : Nat) : Int)) = some (.ptr (B + 0) gr (la.length - 1 - i) 0, D ++ [.blk gr (List.replicate (la.length - i) (.int .u32 0) ++ qs.map limb) true false 0, .dead]) :=
     row_idx (L := [.blk gr (List.replicate (la.length - i) (.int .u32 0) ++ qs.map limb) true false 0, .dead]) (k := 0) hB rfl (rep_get hlt) rfl (by omega)
   have hstore : storeV (D ++ [.blk gr (List.replicate (la.length - i) (.int .u32 0) ++ qs.map limb) true false 0, .dead]) 1 (.int .u32 (y : Int)) (.ptr (B + 0) gr (la.length - 1 - i) 0) = some (.undef, D ++ [.blk gr (List.replicate (la.length - (i + 1)) (.int .u32 0) ++ (y :: qs).map limb) true false 0, .dead]) := by
     have h := row_store (K := .u32) (n := y) (K' := .u32) (m := 0) (D := D) (B := B) (g := gr) (i := la.length - 1 - i) (es := List.replicate (la.length - i) (AV.int .u32 0) ++ qs.map limb) (L := [AObj.blk gr (List.replicate (la.length - i) (AV.int .u32 0) ++ qs.map limb) true false 0, .dead]) (k := 0) (w := false) hB rfl (rep_get hlt)
     rw [rep_set hlt] at h
     exact h
   have e6 : IntKind.i64.wrap (((la.length - 1 - i : Nat) : Int) - 1) = (la.length : Int) - ((i + 1 : Nat) : Int) - 1 := by rw [wrap_i64 (by omega) (by omega)]; omega
   simp only [go_sem, Nat.reduceBEq, h0, h1, h6, h7, h8, hB, c289_0, e2, hidx0, w1, w2, w3, w4, bv_quo hbn, bv_rem hbn, w5, w6, hidx, hstore, e6]
   refine hn (la.length - (i + 1)) _ (by omega) ⟨i + 1, z, y :: qs, hlt, rfl, by simp [hql], ?_, hrem, ?_, by simp [upd_at, h0], by simp [upd_at, h1], by simp [upd_at, h6], by simp [upd_at], by simp [upd_at], rfl⟩
   · intro c hc
     rw [List.mem_cons] at hc
     rcases hc with rfl | hc
     · exact hquo
     · exact hqb c hc
   · rw [show la.length - (i + 1) = la.length - 1 - i by omega, hdr, lval]
     have : b * (y + 1000000000 * lval qs) = b * y + 1000000000 * (b * lval qs) := by rw [Nat.mul_add, Nat.mul_left_comm]
     rw [this]
     omega
 · have hin : i = la.length := by omega
   have e1 : decide ((0 : Int) ≤ (la.length : Int) - i - 1) = false := by rw [decide_eq_false_iff_not]; omega
   rw [hin, Nat.sub_self, List.drop_zero] at hw
   have hh : List.replicate (la.length - i) (AV.int .u32 0) ++ qs.map limb = qs.map limb := by rw [show la.length - i = 0 by omega]; rfl
   have hq1 : lval la / b = lval qs := by
     rw [hw, Nat.add_comm, Nat.add_mul_div_left _ _ hb0, Nat.div_eq_of_lt hr, Nat.zero_add]
   have hq2 : lval la % b = r := by
     rw [hw, Nat.add_comm, Nat.add_mul_mod_self_left, Nat.mod_eq_of_lt hr]
   have hp1 := pure280 (t := .no) hqb (by omega)
   have hp2 : Pure Gam 280 [.sl [.int .u32 (r : Int)] .full] (.sl ((nl r).map limb) .no) := by
     have := pure280 (l := [r]) (t := .full) (by intro x hx; simp at hx; omega) (by simp)
     simpa [lval, limb] using this
   have w1 : IntKind.u32.wrap (r : Int) = (r : Int) := u32_in (by omega) (by omega)
   have hpa : passArgs (D ++ [.blk gr (qs.map limb) true false 0, .dead]) [] 0 [.ob (B + 0) gr 0 la.length] = some [.sl (qs.map limb) .no] := by
     have := row_src (L := [.blk gr (qs.map limb) true false 0, .dead]) (k := 0) (g := gr) (w := false) (len := la.length) hB rfl (by simp; omega)
     simp only [srcOf] at this
     simp only [passArgs, List.contains_nil, Bool.false_eq_true, if_false, conv, this, Option.map_some]
   have hfr : freezeAll (D ++ [.blk gr (qs.map limb) true false 0, .dead]) (lentSlots [] 0 [.ob (B + 0) gr 0 la.length]) = D ++ [.blk gr (qs.map limb) true false la.length, .dead] := by
     have := freeze_row (L := [.blk gr (qs.map limb) true false 0, .dead]) (k := 0) (g := gr) (w := false) (n := 0 + la.length) hB rfl
     rw [Nat.zero_add] at this
     simpa [lentSlots, AV.obs] using this
   have hck : ∀ {base gg clk dst os ts ks Q}, CK Gam base 280 [.ob (B + 0) gr 0 la.length] (D ++ [.blk gr (qs.map limb) true false 0, .dead]) clk .plain dst gg os ts ks Q = O Gam base .plain (gg + 1) os ⟨putA ts dst (.sl ((nl (lval qs)).map limb) .no), D ++ [.blk gr (qs.map limb) true false la.length, .dead], clk⟩ ks Q := by
     intro base gg clk dst os ts ks Q
     rw [CK_conv hp1 rfl fn280 rfl rfl hpa (by simp [cvL, AV.cv]) rfl (by simp [idsL, AV.ids, ids_limbs]) (by simp [AV.ids, ids_limbs])]
     rw [hfr]
     rfl
   rw [hh]
   simp only [go_sem, Nat.reduceBEq, h0, h1, h6, h7, h8, hB, c289_0, e1]
   refine he _ _ ?_
   simp only [go_sem, Nat.reduceBEq, h0, h1, h6, h7, h8, hB, hck, w1, CK_pure hp2]
   rw [RV_limbs2, ← hq1, ← hq2]
   exact hT _
theorem limb_idx0 {l : List Nat} {x : Nat} {h : List AObj} {t : Tip} {k : IntKind} (hl : l = [x]) : idxAV h 1 (.sl (l.map limb) t) (.int k 0) = some (.iptr [.int .u32 (x : Int)] 0, h) := by
 subst hl
 exact idxAV_zero
theorem pure281 {x y : Nat} (hx : (nl x).length ≤ 1000) (hy0 : 0 < y) (hy : y < 1000000000) : Pure Gam 281 [.sl ((nl x).map limb) .no, .sl ((nl y).map limb) .no] (.tup [.sl ((nl (x / y)).map limb) .no, .sl ((nl (x % y)).map limb) .no]) := by
 have hny := nl_small hy0 hy
 obtain ⟨r, hr1, hr2, hp⟩ := pure288 (x := x) (y := y) hx (by rw [hny]; simp)
 have hq := pure289 (la := nl x) (b := y) (nl_lt x) hx hy0 hy
 rw [lval_nl] at hq
 refine Pure.of rfl fn281 rfl rfl rfl (az := [.sl ((nl x).map limb) .no, .sl ((nl y).map limb) .no]) rfl (by simp [idsL, AV.ids, AV.cv, ids_limbs]) fun D B clk T hB hT => ?_
 by_cases hlt : x < y
 · have e1 : decide (r < 0) = true := by rw [decide_eq_true_iff]; omega
   rw [Nat.div_eq_of_lt hlt, Nat.mod_eq_of_lt hlt, nl_zero] at hT
   simp only [go_sem, Nat.reduceBEq, af281, CK_pure hp, e1]
   have := @RV_limbs2 [] [] (nl x) .nil .no T (D ++ [.dead, .dead, .dead, .dead])
   simp only [List.map_nil] at this
   rw [this]
   exact hT _
 · have e1 : decide (r < 0) = false := by rw [decide_eq_false_iff_not]; omega
   have e2 : decide (((nl y).length : Int) = 1) = true := by rw [hny]; rfl
   simp only [go_sem, Nat.reduceBEq, af281, CK_pure hp, e1, List.length_map, e2, limb_idx0 hny, CK_pure hq]
   rw [RV_limbs2]
   exact hT _
theorem pure274 {x y : Nat} (hx : (nl x).length ≤ 1000) (hy : y < 1000000000) : Pure Gam 274 [.sl ((nl x).map limb) .no, .sl ((nl y).map limb) .no] (.sl ((nl (Nat.gcd x y)).map limb) .no) := by
 refine Pure.of rfl fn274 rfl rfl rfl (az := [.sl ((nl x).map limb) .no, .sl ((nl y).map limb) .no]) rfl (by simp [idsL, AV.ids, AV.cv, ids_limbs]) fun D B clk T hB hT => ?_
 simp only [go_sem, Nat.reduceBEq, af274]
 refine K_loop (fun m q => ∃ x' : Nat, m < 1000000000 ∧ (nl x').length ≤ 1000 ∧ Nat.gcd x' m = Nat.gcd x y ∧ q.ts 0 = .sl ((nl x').map limb) .no ∧ q.ts 1 = .sl ((nl m).map limb) .no ∧ q.h = D ++ []) y ⟨x, hy, hx, rfl, rfl, rfl, rfl⟩ ?_
 rintro m ⟨ts, h, clk⟩ P ⟨x', hm, hx', hg, h0, h1, rfl⟩ hn he hr
 dsimp only at h0 h1
 rcases Nat.eq_zero_or_pos m with rfl | hpos
 · have e1 : decide ((0 : Int) < ((nl 0).length : Int)) = false := by rw [nl_zero]; rfl
   simp only [go_sem, Nat.reduceBEq, h0, h1, c274_0, List.length_map, e1]
   refine he _ _ ?_
   simp only [go_sem, Nat.reduceBEq, h0]
   rw [RV_limbs]
   rw [Nat.gcd_zero_right] at hg
   rw [hg]
   exact hT _
 · have hnm := nl_small hpos hm
   have e1 : decide ((0 : Int) < ((nl m).length : Int)) = true := by rw [hnm]; rfl
   simp only [go_sem, Nat.reduceBEq, h0, h1, c274_0, List.length_map, e1, CK_pure (pure281 hx' hpos hm)]
   refine hn (x' % m) _ (Nat.mod_lt _ hpos) ⟨m, Nat.lt_trans (Nat.mod_lt _ hpos) hm, by rw [hnm]; simp, ?_, rfl, rfl, rfl⟩
   rw [← hg, Nat.gcd_comm x' m, Nat.gcd_rec m x', Nat.gcd_comm]
theorem worth_append {a b : List Nat} : worth (a ++ b) = worth a * 10 ^ b.length + worth b := by
 induction a with
 | nil => simp [worth]
 | cons c a ih => rw [List.cons_append, worth_cons, worth_cons, ih, List.length_append, Nat.pow_add, Nat.add_mul, Nat.mul_assoc]; omega
theorem natInner {B clk : Nat} {H : List AObj} {c : List Nat} {v0 v3 v4 : AV} {ts : Tmps} {ks : List Kf} {Q : Post} (hd : ∀ x ∈ c, 48 ≤ x ∧ x ≤ 57) (hl : c.length ≤ 9) (h0 : ts 0 = v0) (h3 : ts 3 = v3) (h4 : ts 4 = v4) (h5 : ts 5 = .int .u32 0) (h20 : ts 20 = .sl (bytes c) .no) (h21 : ts 21 = .int .i64 (c.length : Int)) (h22 : ts 22 = .int .i64 0)
   (hQ : ∀ (ts' : Tmps) (clk' : Nat), ts' 0 = v0 → ts' 3 = v3 → ts' 4 = v4 → ts' 5 = .int .u32 (worth c : Int) → K Gam B (.exit 2) ks ⟨ts', H, clk'⟩ Q) : K Gam B (.loop c273_0) ks ⟨ts, H, clk⟩ Q := by
 refine K_loop (fun m q => ∃ j : Nat, j ≤ c.length ∧ m = c.length - j ∧ q.ts 0 = v0 ∧ q.ts 3 = v3 ∧ q.ts 4 = v4 ∧ q.ts 5 = .int .u32 (worth (c.take j) : Int) ∧ q.ts 20 = .sl (bytes c) .no ∧ q.ts 21 = .int .i64 (c.length : Int) ∧ q.ts 22 = .int .i64 (j : Int) ∧ q.h = H) c.length ⟨0, by omega, rfl, h0, h3, h4, h5, h20, h21, h22, rfl⟩ ?_
 clear h0 h3 h4 h5 h20 h21 h22
 rintro m ⟨ts, h, clk⟩ P ⟨j, hj, rfl, h0, h3, h4, h5, h20, h21, h22, rfl⟩ hn he hr
 dsimp only at h0 h3 h4 h5 h20 h21 h22
 by_cases hlt : j < c.length
 · have e1 : decide ((j : Int) < (c.length : Int)) = true := by rw [decide_eq_true_iff]; omega
   have hc := hd c[j] (List.getElem_mem hlt)
   have hw := worth_take hlt
   have hb := worth_lt (s := c.take (j + 1)) fun x hx => hd x (List.mem_of_mem_take hx)
   have hb2 : 10 ^ (c.take (j + 1)).length ≤ 10 ^ 9 := Nat.pow_le_pow_right (by omega) (by rw [List.length_take]; omega)
   have e2 : IntKind.u8.wrap ((c[j] : Int) - 48) = ((c[j] - 48 : Nat) : Int) := u8_digit hc
   have e3 : IntKind.u32.wrap ((c[j] - 48 : Nat) : Int) = ((c[j] - 48 : Nat) : Int) := u32_in (by omega) (by omega)
   have e4 : IntKind.u32.wrap ((worth (c.take j) : Int) * 10) = ((worth (c.take j) * 10 : Nat) : Int) := by rw [u32_in (by omega) (by omega)]; omega
   have e5 : IntKind.u32.wrap (((worth (c.take j) * 10 : Nat) : Int) + ((c[j] - 48 : Nat) : Int)) = (worth (c.take (j + 1)) : Int) := by rw [u32_in (by omega) (by omega), hw]; omega
   have e6 : IntKind.i64.wrap ((j : Int) + 1) = ((j + 1 : Nat) : Int) := wrap_i64 (by omega) (by omega)
   simp only [go_sem, Nat.reduceBEq, h0, h3, h4, h5, h20, h21, h22, c273_0, e1, idx_bytes hlt, e2, e3, e4, e5, e6]
   exact hn (c.length - (j + 1)) _ (by omega) ⟨j + 1, hlt, rfl, h0, h3, h4, rfl, h20, h21, rfl, rfl⟩
 · have e1 : decide ((j : Int) < (c.length : Int)) = false := by rw [decide_eq_false_iff_not]; omega
   have hjc : j = c.length := by omega
   rw [hjc, List.take_length] at h5
   simp only [go_sem, Nat.reduceBEq, h0, h3, h4, h5, h20, h21, h22, c273_0, e1]
   refine he _ _ ?_
   exact hQ _ _ (by simp [upd_at, h0]) (by simp [upd_at, h3]) (by simp [upd_at, h4]) (by simp [upd_at, h5])
theorem slS_mid {h : List AObj} {s : List Nat} {i j : Nat} {k k' : IntKind} (hij : i ≤ j) (hj : j ≤ s.length) : slV h none (.str s) (some (.int k (i : Int))) (some (.int k' (j : Int))) none = some (.str ((s.take j).drop i), h) := by
 simp [slV, sliceVal, bound, hij, hj]
theorem pure273 {s : List Nat} (hd : ∀ x ∈ s, 48 ≤ x ∧ x ≤ 57) (hl : s.length ≤ 1000) : Pure Gam 273 [.str s] (.sl ((nl (worth s)).map limb) .no) := by
 refine Pure.of rfl fn273 rfl rfl rfl rfl rfl fun D B clk T hB hT => ?_
 simp only [go_sem, Nat.reduceBEq, af273, hB]
 refine K_loop (fun m q => ∃ (j : Nat) (acc : List Nat) (t : Tip) (a o : AObj), m = (s.length + 9) - 9 * j ∧ 9 * j ≤ s.length + 8 ∧ acc.length = j ∧ (∀ x ∈ acc, x < 1000000000) ∧ lval acc = worth (s.drop (s.length - 9 * j)) ∧ q.ts 0 = .str s ∧ q.ts 3 = .sl (acc.map limb) t ∧ q.ts 4 = .int .i64 ((s.length : Int) - 9 * j) ∧ q.h = D ++ [a, o] ∧ TipK B 1 o t 1) (s.length + 9) ⟨0, [], .nil, _, _, rfl, by omega, rfl, by simp, by simp [lval, worth], rfl, rfl, by simp [upd_at], rfl, .inl rfl⟩ ?_
 rintro m ⟨ts, h, clk⟩ P ⟨j, acc, t, a, o, rfl, hj, hal, hab, hv, h0, h3, h4, rfl, ht⟩ hn he hr
 dsimp only at h0 h3 h4
 by_cases hlt : 9 * j < s.length
 · have e1 : decide ((0 : Int) < (s.length : Int) - 9 * j) = true := by rw [decide_eq_true_iff]; omega
   have e0 : (s.length : Int) - 9 * j = ((s.length - 9 * j : Nat) : Int) := by omega
   have e2 : IntKind.i64.wrap ((s.length : Int) - 9 * j - 9) = (s.length : Int) - 9 * j - 9 := wrap_i64 (by omega) (by omega)
   have e3 : (if (0 : Int) > (s.length : Int) - 9 * j - 9 then (0 : Int) else (s.length : Int) - 9 * j - 9) = ((s.length - 9 * j - 9 : Nat) : Int) := by
     split <;> omega
   have hsl : ∀ h, slV h none (.str s) (some (.int .i64 ((s.length - 9 * j - 9 : Nat) : Int))) (some (.int .i64 ((s.length : Int) - 9 * j))) none = some (.str ((s.take (s.length - 9 * j)).drop (s.length - 9 * j - 9)), h) := fun h => by
     rw [e0]
     exact slS_mid (by omega) (by omega)
   generalize hcc : (s.take (s.length - 9 * j)).drop (s.length - 9 * j - 9) = c at hsl
   have hcl : c.length = s.length - 9 * j - (s.length - 9 * j - 9) := by rw [← hcc]; simp
   have hcd : ∀ x ∈ c, 48 ≤ x ∧ x ≤ 57 := fun x hx => by
     rw [← hcc] at hx
     exact hd x (List.mem_of_mem_take (List.mem_of_mem_drop hx))
   have hcw := worth_lt hcd
   have hcw9 : 10 ^ c.length ≤ 10 ^ 9 := Nat.pow_le_pow_right (by omega) (by omega)
   have hsuf : s.drop (s.length - 9 * j - 9) = c ++ s.drop (s.length - 9 * j) := by
     rw [← hcc, ← List.drop_append_of_le_length (by simp), List.take_append_drop]
   have htb : ∀ s' : List Nat, (s'.map fun (b : Nat) => AV.int .u8 (Int.ofNat b)) = bytes s' := fun _ => rfl
   have hbl : (bytes c).length = c.length := by simp [bytes]
   simp only [go_sem, Nat.reduceBEq, h0, h3, h4, c273_1, e1, e2, e3, hsl, htb, hbl]
   refine natInner (v0 := .str s) (v3 := .sl (acc.map limb) t) (v4 := .int .i64 ((s.length : Int) - 9 * j)) hcd (by omega) (by simp [upd_at, h0]) (by simp [upd_at, h3]) (by simp [upd_at, h4]) (by simp [upd_at]) (by simp [upd_at]) (by simp [upd_at]) (by simp [upd_at]) fun ts' clk' q0 q3 q4 q5 => ?_
   simp only [go_sem, Nat.reduceBEq, q0, q3, q4, q5]
   rw [show [AV.int .u32 (worth c : Int)] = [worth c].map limb from rfl, append_loc hB rfl ht cells_limbs cells_limbs (by simp only [List.length_map, List.length_singleton]; omega)]
   simp only [go_sem, Nat.reduceBEq, q0, q3, q4, q5, e2, ← List.map_append]
   refine hn (s.length + 9 - 9 * (j + 1)) _ (by omega) ⟨j + 1, acc ++ [worth c], _, _, _, rfl, by omega, by simp [hal], ?_, ?_, by simp [upd_at, q0], by simp [upd_at], ?_, rfl, .inr (.inr ⟨_, rfl, rfl⟩)⟩
   · intro x hx
     rw [List.mem_append] at hx
     rcases hx with hx | hx
     · exact hab x hx
     · simp at hx; omega
   · rw [show s.length - 9 * (j + 1) = s.length - 9 * j - 9 by omega, hsuf, worth_append, lval_append, hv, hal]
     have : (s.drop (s.length - 9 * j)).length = 9 * j := by simp; omega
     rw [this, Nat.pow_mul]
     simp only [lval, Nat.mul_zero, Nat.add_zero]
     rw [Nat.mul_comm (worth c)]
     have : (10 ^ 9 : Nat) = 1000000000 := by decide
     rw [this]
     omega
   · simp only [upd_at, Nat.reduceBEq, cond_true, cond_false]
     congr 1
     omega
 · have e1 : decide ((0 : Int) < (s.length : Int) - 9 * j) = false := by rw [decide_eq_false_iff_not]; omega
   rw [show s.length - 9 * j = 0 by omega, List.drop_zero] at hv
   have hp := pure280 (l := acc) (t := t) hab (by omega)
   rw [hv] at hp
   simp only [go_sem, Nat.reduceBEq, h0, h3, h4, c273_1, e1]
   refine he _ _ ?_
   simp only [go_sem, Nat.reduceBEq, h3, CK_pure hp]
   rw [RV_limbs]
   exact hT _
theorem neq_nilif {h : List AObj} : binV h .neq .iface .nilif .nilif = some (.bool false, h) := (rfl)
theorem shl_64 {h : List AObj} : binV h .shl (.one .int) (.int .u64 1) (.int .u64 64) = some (.int .u64 0, h) := by
 have : IntKind.u64.wrap (2 ^ min 64 IntKind.u64.bits) = 0 := by decide
 simp [binV, binVal, shiftVal, this]
theorem shl_63 {h : List AObj} : binV h .shl (.one .int) (.int .u64 1) (.int .u64 63) = some (.int .u64 9223372036854775808, h) := by
 have : IntKind.u64.wrap (2 ^ min 63 IntKind.u64.bits) = 9223372036854775808 := by decide
 simp [binV, binVal, shiftVal, this]
theorem pure283 {n : Nat} (hn : n < 1000000000) : Pure Gam 283 [.str (dec n), .int .i64 10, .int .i64 64] (.tup [.int .u64 (n : Int), .nilif]) := by
 refine Pure.of rfl fn283 rfl rfl rfl rfl rfl fun D B clk T hB hT => ?_
 have hd := dec_digits n
 have hl : (dec n).length ≤ 9 := dec_len (by omega) hn
 have e1 : decide (dec n = []) = false := by simp [dec_ne n]
 have w1 : IntKind.u64.wrap 64 = 64 := by decide
 have w2 : IntKind.u64.wrap (0 - 1) = 18446744073709551615 := by decide
 have htb : ((dec n).map fun (b : Nat) => AV.int .u8 (Int.ofNat b)) = bytes (dec n) := rfl
 simp only [go_sem, Nat.reduceBEq, af283, e1, Int.reduceEq, Int.reduceLE, Int.reduceLT, decide_true, decide_false, w1, shl_64, w2, htb, bytes_len]
 refine K_loop (fun m q => ∃ j : Nat, j ≤ (dec n).length ∧ m = (dec n).length - j ∧ q.ts 1 = .int .i64 10 ∧ q.ts 8 = .bool false ∧ q.ts 10 = .int .u64 1844674407370955162 ∧ q.ts 11 = .int .u64 18446744073709551615 ∧ q.ts 12 = .bool false ∧ q.ts 13 = .int .u64 (worth ((dec n).take j) : Int) ∧ q.ts 99 = .sl (bytes (dec n)) .no ∧ q.ts 100 = .int .i64 ((dec n).length : Int) ∧ q.ts 101 = .int .i64 (j : Int) ∧ q.h = D ++ []) (dec n).length ⟨0, by omega, rfl, rfl, rfl, rfl, rfl, rfl, rfl, rfl, rfl, rfl, rfl⟩ ?_
 rintro m ⟨ts, h, clk⟩ P ⟨j, hj, rfl, h1, h8, h10, h11, h12, h13, h99, h100, h101, rfl⟩ hn' he hr
 dsimp only at h1 h8 h10 h11 h12 h13 h99 h100 h101
 by_cases hlt : j < (dec n).length
 · have f1 : decide ((j : Int) < ((dec n).length : Int)) = true := by rw [decide_eq_true_iff]; omega
   have hc := hd _ (List.getElem_mem hlt)
   have hw := worth_take hlt
   have hb := worth_lt (s := (dec n).take (j + 1)) fun x hx => hd x (List.mem_of_mem_take hx)
   have hb2 : 10 ^ ((dec n).take (j + 1)).length ≤ 10 ^ 9 := Nat.pow_le_pow_right (by omega) (by rw [List.length_take]; omega)
   generalize hcc : (dec n)[j] = c at hc hw
   have hidx : ∀ h, idxAV h 1 (.sl (bytes (dec n)) .no) (.int .i64 (j : Int)) = some (.iptr [.int .u8 (c : Int)] 0, h) := fun h => by rw [idx_bytes hlt, hcc]
   have f2 : decide ((c : Int) = 95) = false := by rw [decide_eq_false_iff_not]; omega
   have f3 : decide ((48 : Int) ≤ (c : Int)) = true := by rw [decide_eq_true_iff]; omega
   have f4 : decide ((c : Int) ≤ 57) = true := by rw [decide_eq_true_iff]; omega
   have f5 : IntKind.u8.wrap ((c : Int) - 48) = ((c - 48 : Nat) : Int) := u8_digit hc
   have f6 : IntKind.u8.wrap 10 = 10 := by decide
   have f7 : decide ((10 : Int) ≤ ((c - 48 : Nat) : Int)) = false := by rw [decide_eq_false_iff_not]; omega
   have f8 : decide ((1844674407370955162 : Int) ≤ (worth ((dec n).take j) : Int)) = false := by rw [decide_eq_false_iff_not]; omega
   have f9 : IntKind.u64.wrap 10 = 10 := by decide
   have f10 : IntKind.u64.wrap ((worth ((dec n).take j) : Int) * 10) = ((worth ((dec n).take j) * 10 : Nat) : Int) := by rw [u64_in (by omega) (by omega)]; omega
   have f11 : IntKind.u64.wrap ((c - 48 : Nat) : Int) = ((c - 48 : Nat) : Int) := u64_in (by omega) (by omega)
   have f12 : IntKind.u64.wrap (((worth ((dec n).take j) * 10 : Nat) : Int) + ((c - 48 : Nat) : Int)) = (worth ((dec n).take (j + 1)) : Int) := by rw [u64_in (by omega) (by omega), hw]; omega
   have f13 : decide ((worth ((dec n).take (j + 1)) : Int) < ((worth ((dec n).take j) * 10 : Nat) : Int)) = false := by rw [decide_eq_false_iff_not]; omega
   have f14 : decide ((18446744073709551615 : Int) < (worth ((dec n).take (j + 1)) : Int)) = false := by rw [decide_eq_false_iff_not]; omega
   have f15 : IntKind.i64.wrap ((j : Int) + 1) = ((j + 1 : Nat) : Int) := wrap_i64 (by omega) (by omega)
   simp only [go_sem, Nat.reduceBEq, h1, h8, h10, h11, h12, h13, h99, h100, h101, c283_0, f1, hidx, f2, f3, f4, f5, f6, f7, f8, f9, f10, f11, f12, f13, f14, f15]
   exact hn' ((dec n).length - (j + 1)) _ (by omega) ⟨j + 1, hlt, rfl, h1, h8, h10, h11, h12, rfl, h99, h100, rfl, rfl⟩
 · have f1 : decide ((j : Int) < ((dec n).length : Int)) = false := by rw [decide_eq_false_iff_not]; omega
   have hjc : j = (dec n).length := by omega
   rw [hjc, List.take_length, worth_dec] at h13
   simp only [go_sem, Nat.reduceBEq, h1, h8, h10, h11, h12, h13, h99, h100, h101, c283_0, f1]
   refine he _ _ ?_
   simp only [go_sem, Nat.reduceBEq, h12, h13]
   rw [RV_some rfl rfl]
   exact hT _
theorem pure278 {n : Nat} (hn : n < 1000000000) : Pure Gam 278 [.str (dec n), .int .i64 10, .int .i64 64] (.tup [.int .i64 (n : Int), .nilif]) := by
 refine Pure.of rfl fn278 rfl rfl rfl rfl rfl fun D B clk T hB hT => ?_
 obtain ⟨c, t, hct⟩ := List.exists_cons_of_ne_nil (dec_ne n)
 have hc := dec_digits n c (by rw [hct]; exact List.mem_cons_self)
 have e1 : decide (dec n = []) = false := by simp [dec_ne n]
 have e2 : ∀ h k, idxSV h (.str (dec n)) (.int k 0) = some (.int .u8 (c : Int), h) := fun h k => by rw [hct]; exact idxS_zero
 have e3 : decide ((c : Int) = 43) = false := by rw [decide_eq_false_iff_not]; omega
 have e4 : decide ((c : Int) = 45) = false := by rw [decide_eq_false_iff_not]; omega
 have e5 : IntKind.i64.wrap (64 - 1) = 63 := by decide
 have e6 : IntKind.u64.wrap 63 = 63 := by decide
 have e7 : decide ((9223372036854775808 : Int) ≤ (n : Int)) = false := by rw [decide_eq_false_iff_not]; omega
 have e8 : IntKind.i64.wrap (n : Int) = (n : Int) := wrap_i64 (by omega) (by omega)
 simp only [go_sem, Nat.reduceBEq, af278, e1, e2, e3, e4, CK_pure (pure283 hn), neq_nilif, Int.reduceEq, decide_false, e5, e6, shl_63, Bool.not_false, e7, e8]
 rw [RV_some rfl rfl]
 exact hT _
theorem pure271 {n : Nat} (hn : n < 1000000000) : Pure Gam 271 [.str (dec n), .int .i64 10, .int .i64 64] (.tup [.int .i64 (n : Int), .nilif]) := by
 refine Pure.of rfl fn271 rfl rfl rfl rfl rfl fun D B clk T hB hT => ?_
 simp only [go_sem, Nat.reduceBEq, af271, CK_pure (pure278 hn), neq_nilif]
 rw [RV_some rfl rfl]
 exact hT _
theorem pure272 {a b : Nat} (hb : b < 2 ^ 62) : Pure Gam 272 [.int .i64 (a : Int), .int .i64 (b : Int)] (.int .i64 (Nat.gcd a b : Int)) := by
 refine Pure.of rfl fn272 rfl rfl rfl rfl rfl fun D B clk T hB hT => ?_
 simp only [go_sem, Nat.reduceBEq, af272]
 refine K_loop (fun m q => ∃ x : Nat, m < 2 ^ 62 ∧ Nat.gcd x m = Nat.gcd a b ∧ q.ts 0 = .int .i64 (x : Int) ∧ q.ts 1 = .int .i64 (m : Int) ∧ q.h = D ++ []) b ⟨a, hb, rfl, rfl, rfl, rfl⟩ ?_
 rintro m ⟨ts, h, clk⟩ P ⟨x, hm, hg, h0, h1, rfl⟩ hn he hr
 dsimp only at h0 h1
 rcases Nat.eq_zero_or_pos m with rfl | hpos
 · simp only [go_sem, Nat.reduceBEq, h0, h1, c272_0, decide_true, Bool.not_true]
   refine he _ _ ?_
   simp only [go_sem, Nat.reduceBEq, h0]
   rw [RV_int]
   rw [Nat.gcd_zero_right] at hg
   rw [hg]
   exact hT _
 · have e1 : decide ((m : Int) = 0) = false := by rw [decide_eq_false_iff_not]; omega
   have e2 : ((x : Int)).tmod (m : Int) = ((x % m : Nat) : Int) := IntWalk.up_tmod rfl rfl
   simp only [go_sem, Nat.reduceBEq, h0, h1, c272_0, e1, Bool.not_false, bv_rem (b := (m : Int)) (by omega), e2]
   have hlt := Nat.mod_lt x hpos
   refine hn (x % m) _ hlt ⟨m, by omega, ?_, rfl, rfl, rfl⟩
   rw [← hg, Nat.gcd_comm x m, Nat.gcd_rec m x, Nat.gcd_comm]
end Go.Proofs.YtbeooboebfbchaaGreatDoor.Am
