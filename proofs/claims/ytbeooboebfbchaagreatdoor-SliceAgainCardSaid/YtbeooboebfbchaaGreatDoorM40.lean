/- Walking: canonical numbers are valid. Walking: canonical numbers are valid (2). Walking: calls that look at objects and change none. -/
import Derived.Test.YtbeooboebfbchaaGreatDoorM39
set_option linter.unusedVariables false
set_option linter.unusedSimpArgs false
namespace Go.Proofs.YtbeooboebfbchaaGreatDoor.Am
open Go
set_option maxRecDepth 100000
def nbody (n : Nat) : Option Nat → List Nat
 | none => dec n
 | some d => dec n ++ 47 :: dec d
def ntext (neg : Bool) (n : Nat) (d : Option Nat) : List Nat := if neg then 45 :: nbody n d else nbody n d
structure NumT (neg : Bool) (n : Nat) (d : Option Nat) : Prop where
 pos : neg = true → n ≠ 0
 len : n < 10 ^ 40
 den : ∀ k, d = some k → 2 ≤ k ∧ k ≤ 4 ∧ Nat.gcd n k = 1
theorem RatS.text {a : List Nat} (h : RatS a) : ∃ neg n d, a = ntext neg n d ∧ NumT neg n d := by
 rcases h with ⟨z, rfl, h⟩ | ⟨z, d, rfl, h, h2, h4, hg⟩
 · refine ⟨decide (z < 0), z.natAbs, none, ?_, ⟨fun hz => ?_, h, by simp⟩⟩
   · unfold itext ntext nbody
     by_cases hz : z < 0 <;> simp [hz]
   · simp at hz; omega
 · refine ⟨decide (z < 0), z.natAbs, some d, ?_, ⟨fun hz => ?_, h, fun k hk => by injection hk with hk; subst hk; exact ⟨h2, h4, hg⟩⟩⟩
   · unfold itext ntext nbody
     by_cases hz : z < 0 <;> simp [hz]
   · simp at hz; omega
def denT : Option Nat → List Nat
 | none => []
 | some d => dec d
theorem nocut {n : Nat} : ∀ c ∈ dec n, c ≠ 47 := fun c hc => by have := dec_digits n c hc; omega
theorem pure264 {neg : Bool} {n : Nat} {d : Option Nat} : Pure Gam 264 [.str (ntext neg n d), .str [45]] (.tup [.str (nbody n d), .bool neg]) := by
 cases neg
 · obtain ⟨c, t, hct⟩ := List.exists_cons_of_ne_nil (dec_ne n)
   have hc := dec_digits n c (by rw [hct]; exact List.mem_cons_self)
   have hb : ∃ t', nbody n d = c :: t' := by cases d <;> simp [nbody, hct]
   obtain ⟨t', ht⟩ := hb
   simp only [ntext, Bool.false_eq_true, if_false, ht]
   exact pure264_pos (by omega)
 · exact pure264_neg
theorem pure270 {n : Nat} {d : Option Nat} (hl : (dec n).length ≤ 1000) : Pure Gam 270 [.str (nbody n d), .str [47]] (.tup [.str (dec n), .str (denT d), .bool d.isSome]) := by
 cases d
 · exact pure270_none (dec_ne n) nocut
 · exact pure270_at (dec_ne n) nocut hl
theorem digit_len {d : Nat} (h : d ≤ 4) : (dec d).length ≤ 1 := by rw [dec_lt (by omega)]; simp
theorem pure267_big {neg : Bool} {n : Nat} {d : Option Nat} (hl : (dec n).length ≤ 1000) (h9 : 9 < (dec n).length) : Pure Gam 267 [.str (ntext neg n d)] (.tup [.agg [.int .i64 0, .int .i64 0], .bool false]) := by
 refine Pure.of rfl fn267 rfl rfl rfl rfl rfl fun D B clk T hB hT => ?_
 have e1 : decide ((9 : Int) < ((dec n).length : Int)) = true := by rw [decide_eq_true_iff]; omega
 simp only [go_sem, Nat.reduceBEq, Nat.reduceAdd, Nat.reduceLeDiff, Nat.reduceSub, reduceCtorEq, ↓reduceIte, af267, hB, CK_pure pure264, CK_pure (pure270 hl), e1, res_cell, resC_ptr, rconsO_some]
 rw [RV_some rfl rfl]
 exact hT _
theorem pure267_small {neg : Bool} {n : Nat} {d : Option Nat} (ht : NumT neg n d) (h9 : (dec n).length ≤ 9) (hn : n < 1000000000) : ∃ p q : Int, Pure Gam 267 [.str (ntext neg n d)] (.tup [.agg [.int .i64 p, .int .i64 q], .bool true]) := by
 refine ⟨if neg then IntKind.i64.wrap (0 - (n : Int)) else n, (d.getD 1 : Nat), ?_⟩
 refine Pure.of rfl fn267 rfl rfl rfl rfl rfl fun D B clk T hB hT => ?_
 have e1 : decide ((9 : Int) < ((dec n).length : Int)) = false := by rw [decide_eq_false_iff_not]; omega
 have hden : (denT d).length ≤ 1 := by
   cases d with
   | none => simp [denT]
   | some k => exact digit_len (ht.den k rfl).2.1
 have e2 : decide ((9 : Int) < ((denT d).length : Int)) = false := by rw [decide_eq_false_iff_not]; omega
 have hp1 := pure265 (n := n) (by omega)
 have e3 : decide (dec n = [48]) = decide (n = 0) := dec_is_zero
 simp only [go_sem, Nat.reduceBEq, Nat.reduceAdd, Nat.reduceLeDiff, Nat.reduceSub, reduceCtorEq, ↓reduceIte, af267, hB, CK_pure pure264, CK_pure (pure270 (n := n) (d := d) (by omega)), e1, e2, CK_pure hp1, Bool.not_true, e3]
 have hfin : ∀ (r : Int), r = (if neg then IntKind.i64.wrap (0 - (n : Int)) else n) → ∀ h', T (.tup [.agg [.int .i64 r, .int .i64 (d.getD 1 : Nat)], .bool true]) h' := fun r hr h' => hr ▸ hT h'
 rcases Nat.eq_zero_or_pos n with rfl | hpos
 · have hneg : neg = false := by cases neg with
     | false => rfl
     | true => exact absurd rfl (ht.pos rfl)
   have hd0 : d = none := by cases d with
     | none => rfl
     | some k => have := ht.den k rfl; rw [Nat.gcd_zero_left] at this; omega
   subst hneg; subst hd0
   simp only [go_sem, Nat.reduceBEq, Nat.reduceAdd, Nat.reduceLeDiff, Nat.reduceSub, reduceCtorEq, ↓reduceIte, decide_true, Option.isSome_none, CK_pure (pure271 (n := 0) (by omega)), hB, res_cell, resC_ptr, rconsO_some]
   rw [RV_some rfl rfl]
   exact hfin _ rfl _
 · have e4 : decide (n = 0) = false := by rw [decide_eq_false_iff_not]; omega
   simp only [go_sem, Nat.reduceBEq, Nat.reduceAdd, Nat.reduceLeDiff, Nat.reduceSub, reduceCtorEq, ↓reduceIte, e4, CK_pure (pure271 hn)]
   cases d with
   | none =>
     cases neg
     · simp only [go_sem, Nat.reduceBEq, Nat.reduceAdd, Nat.reduceLeDiff, Nat.reduceSub, reduceCtorEq, ↓reduceIte, Option.isSome_none, hB, res_cell, resC_ptr, rconsO_some]
       rw [RV_some rfl rfl]
       exact hfin _ rfl _
     · simp only [go_sem, Nat.reduceBEq, Nat.reduceAdd, Nat.reduceLeDiff, Nat.reduceSub, reduceCtorEq, ↓reduceIte, Option.isSome_none, hB, res_cell, resC_ptr, rconsO_some]
       rw [RV_some rfl rfl]
       exact hfin _ rfl _
   | some k =>
     obtain ⟨hk2, hk4, hg⟩ := ht.den k rfl
     have hp2 := pure265 (n := k) (by have := digit_len hk4; omega)
     have e5 : decide ((k : Int) < 2) = false := by rw [decide_eq_false_iff_not]; omega
     have hp3 := pure272 (a := n) (b := k) (by omega)
     rw [hg] at hp3
     cases neg
     · simp only [go_sem, Nat.reduceBEq, Nat.reduceAdd, Nat.reduceLeDiff, Nat.reduceSub, reduceCtorEq, ↓reduceIte, Option.isSome_some, denT, CK_pure hp2, Bool.not_true, CK_pure (pure271 (n := k) (by omega)), e5, CK_pure hp3, decide_true, hB, res_cell, resC_ptr, rconsO_some]
       rw [RV_some rfl rfl]
       exact hfin _ rfl _
     · simp only [go_sem, Nat.reduceBEq, Nat.reduceAdd, Nat.reduceLeDiff, Nat.reduceSub, reduceCtorEq, ↓reduceIte, Option.isSome_some, denT, CK_pure hp2, Bool.not_true, CK_pure (pure271 (n := k) (by omega)), e5, CK_pure hp3, decide_true, hB, res_cell, resC_ptr, rconsO_some]
       rw [RV_some rfl rfl]
       exact hfin _ rfl _
theorem nl_dec {n : Nat} (hn : n < 10 ^ 40) : (nl n).length ≤ 5 := nl_len (k := 5) (by
 have : (1000000000 : Nat) ^ 5 = 10 ^ 45 := by decide
 rw [this]
 have : (10 : Nat) ^ 40 ≤ 10 ^ 45 := Nat.pow_le_pow_right (by omega) (by omega)
 omega)
theorem pure273' {n : Nat} (hl : (dec n).length ≤ 1000) : Pure Gam 273 [.str (dec n)] (.sl ((nl n).map limb) .no) := by
 have := pure273 (s := dec n) (dec_digits n) hl
 rwa [worth_dec] at this
theorem pure268 {neg : Bool} {n : Nat} {d : Option Nat} (ht : NumT neg n d) : ∃ v : AV, v.ids = [] ∧ v.obs = [] ∧ (∃ a b c, v = .agg [.bool a, .sl b .no, .sl c .no]) ∧ Pure Gam 268 [.str (ntext neg n d)] (.tup [v, .bool true]) := by
 have hlen : (dec n).length ≤ 40 := dec_len (by omega) ht.len
 have hp1 := pure265 (n := n) (by omega)
 have hpn := pure273' (n := n) (by omega)
 have e3 : decide (dec n = [48]) = decide (n = 0) := dec_is_zero
 have e13 : decide (dec n = [48]) = true → neg = false ∧ d = none := by
   rw [e3, decide_eq_true_iff]
   rintro rfl
   refine ⟨?_, ?_⟩
   · cases neg with
     | false => rfl
     | true => exact absurd rfl (ht.pos rfl)
   · cases d with
     | none => rfl
     | some k => have := ht.den k rfl; rw [Nat.gcd_zero_left] at this; omega
 have w1 : (AV.sl [.int .u32 1] .full).cv = .sl ([1].map limb) .no := rfl
 cases d with
 | none =>
   refine ⟨.agg [.bool neg, .sl ((nl n).map limb) .no, .sl ([1].map limb) .no], by simp [AV.ids, idsL, ids_limbs, limb], rfl, ⟨_, _, _, rfl⟩, ?_⟩
   refine Pure.of rfl fn268 rfl rfl rfl rfl rfl fun D B clk T hB hT => ?_
   simp only [go_sem, Nat.reduceBEq, Nat.reduceAdd, Nat.reduceLeDiff, Nat.reduceSub, reduceCtorEq, ↓reduceIte, af268, hB, CK_pure pure264, CK_pure (pure270 (n := n) (d := none) (by omega)), CK_pure hp1, Bool.not_true, Option.isSome_none]
   have key : ∀ x : Bool, decide (dec n = [48]) = x → T (.tup [.agg [.bool neg, .sl ((nl n).map limb) .no, .sl [.int .u32 1] .no], .bool true]) = T (.tup [.agg [.bool neg, .sl ((nl n).map limb) .no, .sl ([1].map limb) .no], .bool true]) := fun _ _ => rfl
   cases hz : decide (dec n = [48]) with
   | true =>
     obtain ⟨rfl, _⟩ := e13 hz
     simp only [go_sem, Nat.reduceBEq, Nat.reduceAdd, Nat.reduceLeDiff, Nat.reduceSub, reduceCtorEq, ↓reduceIte, CK_pure hpn, hB, Bool.not_false, res_cell, resC_ptr, rconsO_some]
     rw [RV_some rfl (by simp [oneOf, AV.cv, cvL, AV.ids, idsL, ids_limbs, limb])]
     exact hT _
   | false =>
     simp only [go_sem, Nat.reduceBEq, Nat.reduceAdd, Nat.reduceLeDiff, Nat.reduceSub, reduceCtorEq, ↓reduceIte, CK_pure hpn, hB, Bool.not_false, res_cell, resC_ptr, rconsO_some]
     rw [RV_some rfl (by simp [oneOf, AV.cv, cvL, AV.ids, idsL, ids_limbs, limb])]
     exact hT _
 | some k =>
   obtain ⟨hk2, hk4, hg⟩ := ht.den k rfl
   have hnz : decide (dec n = [48]) = false := by
     cases hz : decide (dec n = [48]) with
     | false => rfl
     | true => exact absurd (e13 hz).2 (by simp)
   have hkl := digit_len hk4
   have hp2 := pure265 (n := k) (by omega)
   have hpk := pure273' (n := k) (by omega)
   have e5 : decide (dec k = [48]) = false := by rw [dec_is_zero, decide_eq_false_iff_not]; omega
   have e6 : decide (dec k = [49]) = false := by rw [dec_is_one, decide_eq_false_iff_not]; omega
   have hpg := pure274 (x := n) (y := k) (by have := nl_dec ht.len; omega) (by omega)
   rw [hg, show nl 1 = [1] from nl_small (by omega) (by omega)] at hpg
   have hpo := pure275 (l := [1])
   have e7 : decide (([1] : List Nat) = [1]) = true := rfl
   rw [e7, List.map_cons, List.map_nil] at hpo
   refine ⟨.agg [.bool neg, .sl ((nl n).map limb) .no, .sl ((nl k).map limb) .no], by simp [AV.ids, idsL, ids_limbs, limb], rfl, ⟨_, _, _, rfl⟩, ?_⟩
   refine Pure.of rfl fn268 rfl rfl rfl rfl rfl fun D B clk T hB hT => ?_
   simp only [go_sem, Nat.reduceBEq, Nat.reduceAdd, Nat.reduceLeDiff, Nat.reduceSub, reduceCtorEq, ↓reduceIte, af268, hB, K_draw, CK_pure pure264, CK_pure (pure270 (n := n) (d := some k) (by omega)), CK_pure hp1, Bool.not_true, Option.isSome_some, hnz, CK_pure hpn, denT, CK_pure hp2, e5, e6, CK_pure hpk, CK_pure hpg, CK_pure hpo, res_cell, resC_ptr, rconsO_some]
   refine ⟨by simp [drawOk, apart, disjoint, callAt, footAt, AOp.isCall, hB], ?_⟩
   rw [RV_some rfl (by simp [oneOf, AV.cv, cvL, AV.ids, idsL, ids_limbs, limb])]
   exact hT _
theorem pure263 {neg : Bool} {n : Nat} {d : Option Nat} (ht : NumT neg n d) : Pure Gam 263 [.str (ntext neg n d)] (.bool true) := by
 have hlen : (dec n).length ≤ 40 := dec_len (by omega) ht.len
 by_cases h9 : 9 < (dec n).length
 · have hp1 := pure267_big (neg := neg) (n := n) (d := d) (by omega) h9
   obtain ⟨v, hv1, hv2, ⟨a, b, c, rfl⟩, hp2⟩ := pure268 ht
   refine Pure.of rfl fn263 rfl rfl rfl rfl rfl fun D B clk T hB hT => ?_
   simp only [go_sem, Nat.reduceBEq, Nat.reduceAdd, Nat.reduceLeDiff, Nat.reduceSub, reduceCtorEq, ↓reduceIte, af263, hB, CK_pure hp1, CK_pure hp2]
   rw [RV_bool]
   exact hT _
 · have hn : n < 1000000000 := by
     have h1 := worth_lt (dec_digits n)
     rw [worth_dec] at h1
     have h2 : 10 ^ (dec n).length ≤ 10 ^ 9 := Nat.pow_le_pow_right (by omega) (by omega)
     omega
   obtain ⟨p, q, hp⟩ := pure267_small ht (by omega) hn
   refine Pure.of rfl fn263 rfl rfl rfl rfl rfl fun D B clk T hB hT => ?_
   simp only [go_sem, Nat.reduceBEq, Nat.reduceAdd, Nat.reduceLeDiff, Nat.reduceSub, reduceCtorEq, ↓reduceIte, af263, hB, CK_pure hp]
   rw [RV_bool]
   exact hT _
theorem pure258 {k : Nat} (h1 : 1 ≤ k) (h5 : k ≤ 5) : Pure Gam 258 [.str (dec k)] (.int .i64 1) := by
 have hv : Pure Gam 263 [.str (dec k)] (.bool true) := pure263 (neg := false) (n := k) (d := none) ⟨by simp, by omega, by simp⟩
 have e1 : decide (dec k = [48]) = false := by rw [dec_is_zero, decide_eq_false_iff_not]; omega
 have e2 : ∀ h q, idxSV h (.str (dec k)) (.int q 0) = some (.int .u8 ((48 + k : Nat) : Int), h) := fun h q => by rw [dec_lt (by omega)]; exact idxS_zero
 have e3 : decide (((48 + k : Nat) : Int) = 45) = false := by rw [decide_eq_false_iff_not]; omega
 refine Pure.of rfl fn258 rfl rfl rfl rfl rfl fun D B clk T hB hT => ?_
 simp only [go_sem, Nat.reduceBEq, af258, CK_pure hv, Bool.not_true, e1, e2, e3]
 rw [RV_int]
 exact hT _
theorem pure255_int {a : List Nat} (h : IntS a) : Pure Gam 255 [.int .i64 2, .str a] (.bool true) := by
 obtain ⟨z, rfl, hz⟩ := h
 have hlen : (dec z.natAbs).length ≤ 40 := dec_len (by omega) hz
 have hp := pure257 (z := z) (by omega)
 refine Pure.of rfl fn255 rfl rfl rfl rfl rfl fun D B clk T hB hT => ?_
 simp only [go_sem, Nat.reduceBEq, af255, Int.reduceEq, decide_true, CK_pure hp]
 rw [RV_bool]
 exact hT _
theorem pure255_real {a : List Nat} (h : RatS a) : Pure Gam 255 [.int .i64 3, .str a] (.bool true) := by
 obtain ⟨neg, n, d, rfl, ht⟩ := h.text
 refine Pure.of rfl fn255 rfl rfl rfl rfl rfl fun D B clk T hB hT => ?_
 simp only [go_sem, Nat.reduceBEq, af255, Int.reduceEq, decide_true, decide_false, CK_pure (pure263 ht)]
 rw [RV_bool]
 exact hT _
def Has (S : List (Nat × AObj)) (h : List AObj) : Prop := ∀ p ∈ S, h[p.1]? = some p.2
theorem Has.lt {S : List (Nat × AObj)} {h : List AObj} (hS : Has S h) : ∀ p ∈ S, p.1 < h.length := fun p hp => by
 have := hS p hp
 rw [List.getElem?_eq_some_iff] at this
 exact this.1
theorem Has.app {S : List (Nat × AObj)} {D L : List AObj} (hS : Has S D) : Has S (D ++ L) := fun p hp => by
 rw [List.getElem?_append_left (hS.lt p hp)]
 exact hS p hp
theorem Has.nil {h : List AObj} : Has [] h := fun p hp => by simp at hp
theorem Has.cons {p : Nat × AObj} {S : List (Nat × AObj)} {h : List AObj} (h1 : h[p.1]? = some p.2) (h2 : Has S h) : Has (p :: S) h := fun q hq => by
 rw [List.mem_cons] at hq
 rcases hq with rfl | hq
 · exact h1
 · exact h2 q hq
theorem mem_reach {h : List AObj} : ∀ {n : Nat} {seen todo : List Nat} {s : Nat}, s ∈ seen ∨ s ∈ todo → s ∈ reach h n seen todo
 | 0, seen, todo, s, hs => by
   simp only [reach, List.mem_append]
   exact hs
 | n + 1, seen, [], s, hs => by
   simp only [reach]
   simpa using hs
 | n + 1, seen, t :: todo, s, hs => by
   simp only [reach]
   split
   · rename_i hc
     refine mem_reach ?_
     rcases hs with hs | hs
     · exact .inl hs
     · rw [List.mem_cons] at hs
       rcases hs with rfl | hs
       · exact .inl (by simpa using hc)
       · exact .inr hs
   · refine mem_reach ?_
     rcases hs with hs | hs
     · exact .inl (List.mem_cons_of_mem _ hs)
     · rw [List.mem_cons] at hs
       rcases hs with rfl | hs
       · exact .inl List.mem_cons_self
       · exact .inr (List.mem_append_right _ hs)
theorem reach_pop {h : List AObj} {n s : Nat} {seen todo : List Nat} {o : AObj} (hns : s ∉ seen) (ho : h[s]? = some o) : reach h (n + 1) seen (s :: todo) = reach h n (s :: seen) (o.ids ++ todo) := by
 simp [reach, hns, ho]
theorem reach_sub {h : List AObj} {S : List (Nat × AObj)} (hS : Has S h) (hc : ∀ p ∈ S, ∀ i ∈ p.2.ids, i ∈ S.map (·.1)) : ∀ {n : Nat} {seen todo : List Nat}, (∀ i ∈ seen, i ∈ S.map (·.1)) → (∀ i ∈ todo, i ∈ S.map (·.1)) → ∀ i ∈ reach h n seen todo, i ∈ S.map (·.1)
 | 0, seen, todo, h1, h2, i, hi => by
   simp only [reach, List.mem_append] at hi
   exact hi.elim (h1 i) (h2 i)
 | n + 1, seen, [], h1, h2, i, hi => by
   simp only [reach] at hi
   exact h1 i hi
 | n + 1, seen, t :: todo, h1, h2, i, hi => by
   simp only [reach] at hi
   split at hi
   · exact reach_sub hS hc h1 (fun j hj => h2 j (List.mem_cons_of_mem _ hj)) i hi
   · have ht := h2 t List.mem_cons_self
     obtain ⟨p, hp, rfl⟩ := List.mem_map.1 ht
     rw [hS p hp] at hi
     refine reach_sub hS hc (fun j hj => ?_) (fun j hj => ?_) i hi
     · rw [List.mem_cons] at hj
       rcases hj with rfl | hj
       · exact ht
       · exact h1 j hj
     · simp only [Option.map_some, Option.getD_some, List.mem_append] at hj
       rcases hj with hj | hj
       · exact hc p hp j hj
       · exact h2 j (List.mem_cons_of_mem _ hj)
structure Cov (S : List (Nat × AObj)) (ids : List Nat) : Prop where
 root : ∀ i ∈ ids, i ∈ S.map (·.1)
 closed : ∀ p ∈ S, ∀ i ∈ p.2.ids, i ∈ S.map (·.1)
 cover : ∀ h, Has S h → ∀ p ∈ S, p.1 ∈ reach h (h.length + 1) [] ids
theorem Cov.one {s : Nat} {o : AObj} (ho : o.ids = []) : Cov [(s, o)] [s] := by
 refine ⟨by simp, by simp [ho], fun h hS p hp => ?_⟩
 simp at hp
 subst hp
 exact mem_reach (.inr List.mem_cons_self)
theorem Cov.two {s t : Nat} {o q : AObj} (ho : o.ids = [t]) (hq : q.ids = []) : Cov [(s, o), (t, q)] [s] := by
 refine ⟨by simp, by simp [ho, hq], fun h hS p hp => ?_⟩
 have h1 : h[s]? = some o := hS (s, o) (by simp)
 have hr : reach h (h.length + 1) [] [s] = reach h h.length [s] [t] := by rw [reach_pop (by simp) h1, ho]; rfl
 rw [hr]
 simp at hp
 rcases hp with rfl | rfl
 · exact mem_reach (.inl List.mem_cons_self)
 · exact mem_reach (.inr List.mem_cons_self)
def Reads (S : List (Nat × AObj)) (f : Nat) (args : List AV) (v : AV) : Prop :=
 ∀ h clk, Has S h → (∃ k, callA Gam k f args h clk = some (v, h, clk)) ∧ ∀ x ∈ callFoot Gam f args h, x ∈ S.map (·.1)
theorem merge_same {T : List Nat} : ∀ {h h' : List AObj} {k : Nat}, (∀ i, i < h.length → T.contains (k + i) = true → h'[i]? = h[i]?) → mergeFrom T k h h' = h
 | [], [], _, _ => rfl
 | [], _ :: _, _, _ => rfl
 | o :: h, [], _, _ => rfl
 | o :: h, o' :: h', k, hh => by
   have h0 : T.contains k = true → o' = o := fun hc => by simpa using hh 0 (by simp) hc
   have h1 := merge_same (T := T) (h := h) (h' := h') (k := k + 1) fun i hi hc => by
     have := hh (i + 1) (by simpa using hi) (by rw [show k + (i + 1) = k + 1 + i by omega]; exact hc)
     simpa using this
   simp only [mergeFrom, h1]
   split
   · rename_i hc
     rw [h0 hc]
   · rfl
theorem Reads.of {S : List (Nat × AObj)} {f : Nat} {args az : List AV} {v : AV} {af : AFun} (hext : Gam.ext f = none) (hfn : Gam.fn f = some af) (hb : af.byref = []) (ho : af.owned = false) (hobs : obsL args = []) (has : cvL args = az) (hC : Cov S (idsL az))
   (hw : ∀ (D : List AObj) (B clk : Nat) (R : AV → List AObj → Prop), D.length = B → Has S D → (∀ p ∈ S, p.1 < B) → (∀ h', Has S h' → R v h') → K Gam B af.body [] ⟨entry az, D ++ List.replicate af.nslots .dead, clk⟩ (EndP (S.map (·.1)) af.results R)) : Reads S f args v := by
 intro h clk hS
 have hp : passArgs h af.byref 0 args = some az := by rw [hb, passArgs_cv hobs, has]
 have hl : lentSlots af.byref 0 args = [] := by rw [hb]; exact lent_nil hobs
 have hTS : ∀ i ∈ reach h (h.length + 1) [] (idsL az), i ∈ S.map (·.1) := reach_sub hS hC.closed (by simp) hC.root
 refine ⟨?_, ?_⟩
 · have hmask : Has S (maskFrom (reach h (h.length + 1) [] (idsL az)) 0 h) := fun p hp' => by
     rw [mask_get1 (by rw [Nat.zero_add, List.contains_eq_mem]; exact decide_eq_true (hC.cover h hS p hp'))]
     exact hS p hp'
   obtain ⟨k, e, s1, he, hend⟩ := hw (maskFrom (reach h (h.length + 1) [] (idsL az)) 0 h) _ clk (fun v' h' => v' = v ∧ Has S h') rfl hmask (fun p hp' => by rw [mask_len]; exact hS.lt p hp') (fun h' hh => ⟨rfl, hh⟩)
   obtain ⟨hne, vs, v', hr, hc, hv, hno, rfl, hS'⟩ := EndP_inv hend
   rw [mask_len] at he
   refine ⟨k, ?_⟩
   have hfz : ∀ p ∈ S, (freezeAll s1.h (oneOf vs).obs)[p.1]? = some p.2 := fun p hp' => by
     rw [freeze_get]
     · exact hS' p hp'
     · rw [List.all_eq_true]
       intro q hq
       have := hno
       simp only [noneOf, List.all_eq_true] at this
       have hq' := this q hq
       simp only [Bool.not_eq_true', List.contains_eq_mem, decide_eq_false_iff_not, List.mem_map] at hq'
       simp only [Bool.not_eq_true', List.contains_eq_mem, decide_eq_false_iff_not, List.mem_singleton]
       exact fun hqp => hq' ⟨p, hp', hqp.symm⟩
   have hm : mergeFrom (reach h (h.length + 1) [] (idsL az)) 0 h (freezeAll s1.h (oneOf vs).obs) = h := by
     refine merge_same fun i hi hc' => ?_
     rw [Nat.zero_add, List.contains_eq_mem, decide_eq_true_iff] at hc'
     obtain ⟨p, hp', rfl⟩ := List.mem_map.1 (hTS i hc')
     rw [hfz p hp', hS p hp']
   have hall : ((v'.ids ++ (List.map (fun i => (Option.map AObj.ids (freezeAll s1.h (oneOf vs).obs)[i]?).getD []) (reach h (h.length + 1) [] (idsL az))).flatten).all fun x => decide (x < h.length)) = true := by
     rw [hv, List.nil_append, List.all_eq_true]
     intro x hx
     rw [List.mem_flatten] at hx
     obtain ⟨l, hl', hxl⟩ := hx
     obtain ⟨i, hi, rfl⟩ := List.mem_map.1 hl'
     obtain ⟨p, hp', rfl⟩ := List.mem_map.1 (hTS i hi)
     rw [hfz p hp'] at hxl
     simp only [Option.map_some, Option.getD_some] at hxl
     obtain ⟨q, hq, rfl⟩ := List.mem_map.1 (hC.closed p hp' x hxl)
     exact decide_eq_true (hS.lt q hq)
   unfold callA callWith
   simp only [hext, hfn, hp, hl, freezeAll, he, ho, Bool.false_eq_true, if_false, hr, hc, ite_self, hm]
   cases e with
   | exit i => exact absurd rfl (hne i)
   | norm => simp only [hall, if_true]
   | ret => simp only [hall, if_true]
 · intro x hx
   unfold callFoot at hx
   simp only [hext, hfn, hp, hobs, List.map_nil, List.nil_append] at hx
   exact hTS x hx
theorem CK_reads {f base gg clk : Nat} {args : List AV} {S : List (Nat × AObj)} {h : List AObj} {v : AV} {dst : Option Nat} {os : List AOper} {ts : Tmps} {ks : List Kf} {Q : Post} (hr : Reads S f args v) (hh : Has S h) :
   CK Gam base f args h clk .plain dst gg os ts ks Q = O Gam base .plain (gg + 1) os ⟨putA ts dst v, h, clk⟩ ks Q := by
 obtain ⟨⟨k, hk⟩, _⟩ := hr h clk hh
 unfold CK
 apply propext
 constructor
 · rintro ⟨k', v', h', c, hc, hq⟩
   have := callA_det hk hc
   simp only [Prod.mk.injEq] at this
   obtain ⟨rfl, rfl, rfl⟩ := this
   exact hq
 · intro hq
   exact ⟨k, _, _, _, hk, hq⟩
theorem Pure.reads {S : List (Nat × AObj)} {f : Nat} {args : List AV} {v : AV} (hp : Pure Gam f args v) : Reads S f args v := fun h clk _ => ⟨(hp h clk).1, by rw [(hp h clk).2]; simp⟩
theorem Reads.mono {S S' : List (Nat × AObj)} {f : Nat} {args : List AV} {v : AV} (hr : Reads S f args v) (hs : ∀ p ∈ S, p ∈ S') : Reads S' f args v := fun h clk hS => by
 obtain ⟨h1, h2⟩ := hr h clk fun p hp => hS p (hs p hp)
 refine ⟨h1, fun x hx => ?_⟩
 obtain ⟨p, hp, rfl⟩ := List.mem_map.1 (h2 x hx)
 exact List.mem_map.2 ⟨p, hs p hp, rfl⟩
end Go.Proofs.YtbeooboebfbchaaGreatDoor.Am
