/- Decimal digits: plain facts. Walking: integers are written. Terms that are well sorted: plain facts. Walking: small values and variables. Walking: terms and formulas are generated. Walking: terms and formulas are generated (2). -/
import Derived.Test.YtbeooboebfbchaaGreatDoorM31
set_option linter.unusedVariables false
set_option linter.unusedSimpArgs false
namespace Go.Proofs.YtbeooboebfbchaaGreatDoor.Am
open Go
set_option maxRecDepth 100000
def dec (n : Nat) : List Nat := if n < 10 then [48 + n] else dec (n / 10) ++ [48 + n % 10]
termination_by n
def itext (z : Int) : List Nat := if z < 0 then 45 :: dec z.natAbs else dec z.natAbs
theorem dec_lt {n : Nat} (h : n < 10) : dec n = [48 + n] := by rw [dec, if_pos h]
theorem dec_ge {n : Nat} (h : 10 ≤ n) : dec n = dec (n / 10) ++ [48 + n % 10] := by rw [dec, if_neg (by omega)]
theorem dec_ne (n : Nat) : dec n ≠ [] := by
 rw [dec]
 split
 · simp
 · simp
theorem dec_digits (n : Nat) : ∀ c ∈ dec n, 48 ≤ c ∧ c ≤ 57 := by
 induction n using Nat.strongRecOn with
 | ind n ih =>
   rw [dec]
   split
   · intro c hc; simp at hc; omega
   · intro c hc
     rw [List.mem_append] at hc
     rcases hc with hc | hc
     · exact ih (n / 10) (by omega) c hc
     · simp at hc; omega
def worth (s : List Nat) : Nat := s.foldl (fun a c => 10 * a + (c - 48)) 0
theorem worth_snoc {s : List Nat} {c : Nat} : worth (s ++ [c]) = 10 * worth s + (c - 48) := by simp [worth]
theorem worth_dec (n : Nat) : worth (dec n) = n := by
 induction n using Nat.strongRecOn with
 | ind n ih =>
   rw [dec]
   split
   · simp [worth]
   · rw [worth_snoc, ih (n / 10) (by omega)]; omega
theorem dec_inj {a b : Nat} (h : dec a = dec b) : a = b := by rw [← worth_dec a, ← worth_dec b, h]
theorem dec_head {n : Nat} (h : 0 < n) : ∃ c s, dec n = c :: s ∧ 49 ≤ c ∧ c ≤ 57 := by
 induction n using Nat.strongRecOn with
 | ind n ih =>
   rw [dec]
   split
   · exact ⟨48 + n, [], rfl, by omega, by omega⟩
   · obtain ⟨c, s, h1, h2⟩ := ih (n / 10) (by omega) (by omega)
     exact ⟨c, s ++ [48 + n % 10], by rw [h1]; rfl, h2⟩
theorem dec_len {n k : Nat} (hk : 0 < k) (h : n < 10 ^ k) : (dec n).length ≤ k := by
 induction k generalizing n with
 | zero => omega
 | succ k ih =>
   rw [dec]
   split
   · simp
   · rw [List.length_append, List.length_singleton]
     have h1 : n / 10 < 10 ^ k := by rw [Nat.pow_succ] at h; omega
     have hk0 : 0 < k := by
       rcases Nat.eq_zero_or_pos k with rfl | h0
       · simp at h1; omega
       · exact h0
     have := ih hk0 h1
     omega
theorem dec_zero : dec 0 = [48] := dec_lt (by omega)
theorem dec_eq_zero {n : Nat} : dec n = [48] ↔ n = 0 := ⟨fun h => dec_inj (h.trans dec_zero.symm), fun h => h ▸ dec_zero⟩
theorem dec_eq_one {n : Nat} : dec n = [49] ↔ n = 1 := ⟨fun h => dec_inj (h.trans (dec_lt (by omega) : dec 1 = _).symm), fun h => h ▸ dec_lt (by omega)⟩
def Canon (s : List Nat) : Prop := s ≠ [] ∧ (∀ c ∈ s, 48 ≤ c ∧ c ≤ 57) ∧ (s.length > 1 → s.head? ≠ some 48)
theorem canon_dec (n : Nat) : Canon (dec n) := by
 refine ⟨dec_ne n, dec_digits n, fun hl => ?_⟩
 rcases Nat.eq_zero_or_pos n with rfl | h
 · rw [dec_zero] at hl; simp at hl
 · obtain ⟨c, s, h1, h2, _⟩ := dec_head h
   rw [h1]
   simp
   omega
theorem worth_cons {c : Nat} {s : List Nat} : worth (c :: s) = (c - 48) * 10 ^ s.length + worth s := by
 have key : ∀ (s : List Nat) (a : Nat), s.foldl (fun a c => 10 * a + (c - 48)) a = a * 10 ^ s.length + s.foldl (fun a c => 10 * a + (c - 48)) 0 := by
   intro s
   induction s with
   | nil => intro a; simp
   | cons d s ih =>
     intro a
     simp only [List.foldl_cons, List.length_cons]
     rw [ih, ih (10 * 0 + (d - 48)), Nat.pow_succ, Nat.add_mul]
     simp only [Nat.mul_zero, Nat.zero_add]
     rw [show 10 * a * 10 ^ s.length = a * (10 ^ s.length * 10) by rw [Nat.mul_comm 10 a, Nat.mul_assoc, Nat.mul_comm 10]]
     omega
 simp only [worth, List.foldl_cons]
 rw [key]
 simp
theorem dec_worth {s : List Nat} (h : Canon s) : dec (worth s) = s := by
 obtain ⟨h1, h2, h3⟩ := h
 -- by the last digit
 induction hl : s.length generalizing s with
 | zero => exact absurd (List.length_eq_zero_iff.1 hl) h1
 | succ n ih =>
   obtain ⟨t, c, rfl⟩ : ∃ t c, s = t ++ [c] := ⟨s.dropLast, s.getLast h1, (List.dropLast_concat_getLast h1).symm⟩
   have hc := h2 c (by simp)
   rw [worth_snoc]
   by_cases ht : t = []
   · subst ht
     simp [worth]
     rw [dec_lt (by omega)]
     congr 1
     omega
   · have hcan : dec (worth t) = t := ih ht (fun d hd => h2 d (List.mem_append_left _ hd)) (fun hlt => by
       have := h3 (by simp at hlt ⊢; omega)
       obtain ⟨d, t', rfl⟩ := List.exists_cons_of_ne_nil ht
       simpa using this) (by simpa using hl)
     have hpos : 0 < worth t := by
       rcases Nat.eq_zero_or_pos (worth t) with h0 | h0
       · rw [h0, dec_zero] at hcan
         have := h3 (by rw [← hcan]; simp)
         rw [← hcan] at this
         simp at this
       · exact h0
     rw [dec_ge (by omega), show (10 * worth t + (c - 48)) / 10 = worth t by omega, hcan]
     congr 2
     omega
theorem canon_eq {a b : List Nat} (ha : Canon a) (hb : Canon b) (h : worth a = worth b) : a = b := by rw [← dec_worth ha, ← dec_worth hb, h]
theorem pure72 {n : Int} (hn : -2 ^ 62 ≤ n) (hn2 : n ≤ 2 ^ 62) : Pure Gam 72 [.int .i64 n] (.str (itext n)) := by
 refine Pure.of rfl fn72 rfl rfl rfl rfl rfl fun D B clk T hB hT => ?_
 simp only [go_sem, Nat.reduceBEq, af72]
 refine K_loop (fun m s => ∃ (v : Int) (t : List Nat) (a : AObj), m = v.natAbs + (if t = [] then 1 else 0) ∧ -2 ^ 62 ≤ v ∧ v ≤ 2 ^ 62 ∧ t.length ≤ 100 ∧ s.ts 0 = .int .i64 n ∧ s.ts 4 = .int .i64 v ∧ s.ts 3 = .str t ∧ s.h = D ++ [a] ∧
   (if t = [] then v = n else if v = 0 then t = dec n.natAbs else dec n.natAbs = dec v.natAbs ++ t)) (n.natAbs + 1) ?_ ?_
 · exact ⟨n, [], _, by simp, hn, hn2, by simp, rfl, rfl, rfl, rfl, rfl⟩
 rintro m ⟨ts, h, clk⟩ P ⟨v, t, a, rfl, hv1, hv2, hl, h0, h4, h3, rfl, hd⟩ hn he hr
 dsimp only at h0 h4 h3
 have hlen : t.length ≤ 20 ∨ t.length ≤ 20 := by
   by_cases ht : t = []
   · left; subst ht; simp
   · rw [if_neg ht] at hd
     have h20 : (dec n.natAbs).length ≤ 20 := dec_len (by omega) (by omega)
     by_cases hv : v = 0
     · rw [if_pos hv] at hd; left; rw [hd]; exact h20
     · rw [if_neg hv] at hd
       have := congrArg List.length hd
       simp only [List.length_append] at this
       left; omega
 have hl20 : t.length ≤ 20 := hlen.elim id id
 by_cases hc : v = 0 ∧ t ≠ []
 · obtain ⟨rfl, ht⟩ := hc
   have e1 : decide (t = []) = false := by simp [ht]
   simp only [go_sem, Nat.reduceBEq, h0, h4, h3, c72_0, decide_true, e1]
   refine he _ _ ?_
   rw [if_neg ht, if_pos rfl] at hd
   have ht2 : t.length < 2 ^ 59 := by omega
   simp only [go_sem, Nat.reduceBEq, h0, h3]
   refine BK_of (fun hb => ?_) (fun hb => ?_)
   · have hneg : n < 0 := by simpa using hb
     simp only [go_sem, Nat.reduceBEq, h0, h3, sv_add (a := [45]) (b := t) (by simp; omega)]
     rw [RV_one rfl rfl]
     have := hT (D ++ [a])
     rw [itext, if_pos hneg, ← hd] at this
     exact this
   · have hneg : ¬ n < 0 := by simpa using hb
     simp only [go_sem, Nat.reduceBEq, h0, h3]
     rw [RV_one rfl rfl]
     have := hT (D ++ [a])
     rw [itext, if_neg hneg, ← hd] at this
     exact this
 · -- one more digit
   have hq : IntKind.i64.wrap (v.tdiv 10) = v.tdiv 10 := IntWalk.i64_quo' _ _ (by omega)
   have hr1 : (v.tmod 10).natAbs = v.natAbs % 10 := Int.natAbs_tmod v 10
   have hr2 : (v.tdiv 10).natAbs = v.natAbs / 10 := Int.natAbs_tdiv v 10
   have fin : ∀ (ts' : Tmps) (clk' : Nat), ts' 0 = .int .i64 n → ts' 4 = .int .i64 (v.tdiv 10) → ts' 3 = .str ((48 + v.natAbs % 10) :: t) → P .norm ⟨ts', D ++ [a], clk'⟩ := by
     intro ts' clk' g0 g4 g3
     refine hn (((v.tdiv 10).natAbs) + 0) _ ?_ ⟨v.tdiv 10, (48 + v.natAbs % 10) :: t, _, by simp, by omega, by omega, by simp; omega, g0, g4, g3, rfl, ?_⟩
     · by_cases ht : t = []
       · rw [if_pos ht]; omega
       · have : v ≠ 0 := fun h => hc ⟨h, ht⟩
         rw [if_neg ht]; omega
     · rw [if_neg (by simp)]
       by_cases ht : t = []
       · subst ht
         rw [if_pos rfl] at hd
         subst hd
         by_cases h10 : v.natAbs < 10
         · rw [if_pos (by omega), dec_lt h10, Nat.mod_eq_of_lt h10]
         · rw [if_neg (by omega), dec_ge (by omega), hr2]
       · have hv0 : v ≠ 0 := fun h => hc ⟨h, ht⟩
         rw [if_neg ht, if_neg hv0] at hd
         by_cases h10 : v.natAbs < 10
         · rw [if_pos (by omega), hd, dec_lt h10, Nat.mod_eq_of_lt h10]; rfl
         · rw [if_neg (by omega), hd, dec_ge (n := v.natAbs) (by omega), hr2]; simp
   have e2 : (48 + (v.natAbs : Int) % 10).toNat = 48 + v.natAbs % 10 := by omega
   have e3 : (0 ≤ 48 + (v.natAbs : Int) % 10 ∧ 48 + (v.natAbs : Int) % 10 < 256) = True := by simp; omega
   have e4 : IntKind.u8.wrap (IntKind.i64.wrap (48 + (v.natAbs : Int) % 10)) = 48 + (v.natAbs : Int) % 10 := by rw [wrap_i64 (by omega) (by omega), IntWalk.u8_in _ (by omega)]
   have e5 : decide ((v.natAbs : Int) % 10 < 0) = false := by simp; omega
   have hs := sv_add (h := D ++ [a]) (t := .one .str) (a := [48 + v.natAbs % 10]) (b := t) (by simp; omega)
   by_cases hv : v = 0
   · have ht : t = [] := Classical.byContradiction fun h => hc ⟨hv, h⟩
     have e6 : v.tmod 10 = (v.natAbs : Int) % 10 := by subst hv; rfl
     have e7 : decide (v = 0) = true := by simp [hv]
     have e8 : decide (t = []) = true := by simp [ht]
     simp only [go_sem, Nat.reduceBEq, h0, h4, h3, c72_0, bv_rem (b := 10) (by decide), e2, e3, e4, e5, e6, e7, e8, hs, bytesOf, bv_quo (b := 10) (by decide), hq]
     exact fin _ _ (by simp [upd_at, h0]) (by simp [upd_at]) (by simp [upd_at])
   · have e7 : decide (v = 0) = false := by simp [hv]
     by_cases hneg : v.tmod 10 < 0
     · have e6 : IntKind.i64.wrap (0 - v.tmod 10) = (v.natAbs : Int) % 10 := by rw [wrap_i64 (by omega) (by omega)]; omega
       have e8 : decide (v.tmod 10 < 0) = true := by simp [hneg]
       simp only [go_sem, Nat.reduceBEq, h0, h4, h3, c72_0, bv_rem (b := 10) (by decide), e2, e3, e4, e5, e6, e7, e8, hs, bytesOf, bv_quo (b := 10) (by decide), hq]
       exact fin _ _ (by simp [upd_at, h0]) (by simp [upd_at]) (by simp [upd_at])
     · have e6 : v.tmod 10 = (v.natAbs : Int) % 10 := by omega
       simp only [go_sem, Nat.reduceBEq, h0, h4, h3, c72_0, bv_rem (b := 10) (by decide), e2, e3, e4, e5, e6, e7, hs, bytesOf, bv_quo (b := 10) (by decide), hq]
       exact fin _ _ (by simp [upd_at, h0]) (by simp [upd_at]) (by simp [upd_at])
def IntS (a : List Nat) : Prop := ∃ z : Int, a = itext z ∧ z.natAbs < 10 ^ 40
def RatS (a : List Nat) : Prop := IntS a ∨ ∃ (z : Int) (d : Nat), a = itext z ++ 47 :: dec d ∧ z.natAbs < 10 ^ 40 ∧ 2 ≤ d ∧ d ≤ 4 ∧ Nat.gcd z.natAbs d = 1
def bare (o k : Nat) : Node := ⟨o, 0, [], [], k⟩
inductive NodeOk (V : List Var) : Node → List Nat → Nat → Term → Prop
 | bool {o : Nat} {ks : Term} (h : o = 1 ∨ o = 2) : NodeOk V (bare o 0) [] 1 ks
 | int {a : List Nat} {ks : Term} (h : IntS a) : NodeOk V ⟨3, 2, [], a, 0⟩ [] 2 ks
 | real {a : List Nat} {ks : Term} (h : RatS a) : NodeOk V ⟨3, 3, [], a, 0⟩ [] 3 ks
 | var {v : Var} {ks : Term} (h : v ∈ V) : NodeOk V ⟨4, v.sort, v.name, [], 0⟩ [] v.sort ks
 | not {ks : Term} : NodeOk V (bare 6 1) [1] 1 ks
 | andor {o k : Nat} {ks : Term} (h : o = 7 ∨ o = 8) : NodeOk V (bare o k) (List.replicate k 1) 1 ks
 | imp {ks : Term} : NodeOk V (bare 9 2) [1, 1] 1 ks
 | ite {s : Nat} {ks : Term} (h1 : 1 ≤ s) (h2 : s ≤ 4) : NodeOk V (bare 10 3) [1, s, s] s ks
 | eq {s : Nat} {ks : Term} (h1 : 1 ≤ s) (h2 : s ≤ 4) : NodeOk V (bare 11 2) [s, s] 1 ks
 | cmp {o s : Nat} {ks : Term} (h : o = 12 ∨ o = 13) (hs : s = 2 ∨ s = 3) : NodeOk V (bare o 2) [s, s] 1 ks
 | add {k s : Nat} {ks : Term} (h : 1 ≤ k) (hs : s = 2 ∨ s = 3) : NodeOk V (bare 14 k) (List.replicate k s) s ks
 | mul {s : Nat} {n : Node} {ks : Term} (hs : s = 2 ∨ s = 3) (hn : n.op = 3) : NodeOk V (bare 15 2) [s, s] s (n :: ks)
 | div {o k : Nat} {ks : Term} (h : o = 16 ∨ o = 17) (h1 : 1 ≤ k) (h2 : k ≤ 5) : NodeOk V ⟨o, 0, [], dec k, 1⟩ [2] 2 ks
 | select {ks : Term} : NodeOk V (bare 18 2) [4, 2] 2 ks
 | store {ks : Term} : NodeOk V (bare 19 3) [4, 2, 2] 4 ks
 | const {ks : Term} : NodeOk V (bare 20 1) [2] 4 ks
inductive WF (V : List Var) : List Nat → Nat → Term → Prop
 | nil {d : Nat} : WF V [] d []
 | cons {n : Node} {ss : List Nat} {ks : Term} {s d : Nat} {ss' : List Nat} {rest : Term} : WF V ss d ks → NodeOk V n ss s ks → n.kids = ss.length → WF V ss' (d + 1) rest → WF V (s :: ss') (d + 1) (n :: (ks ++ rest))
theorem WF.up {V : List Var} {ss : List Nat} {d d' : Nat} {t : Term} (h : WF V ss d t) (hd : d ≤ d') : WF V ss d' t := by
 induction h generalizing d' with
 | nil => exact .nil
 | cons h1 h2 h3 h4 ih1 ih2 =>
   obtain ⟨e, rfl⟩ : ∃ e, d' = e + 1 := ⟨d' - 1, by omega⟩
   exact .cons (ih1 (by omega)) h2 h3 (ih2 hd)
theorem WF.append {V : List Var} {ss ss' : List Nat} {d : Nat} {t t' : Term} (h : WF V ss d t) (h' : WF V ss' d t') : WF V (ss ++ ss') d (t ++ t') := by
 induction h with
 | nil => exact h'
 | cons h1 h2 h3 h4 ih1 ih2 =>
   rw [List.cons_append, List.cons_append, List.append_assoc]
   exact .cons h1 h2 h3 (ih2 h')
theorem WF.one {V : List Var} {n : Node} {ss : List Nat} {s d : Nat} {ks : Term} (h : WF V ss d ks) (hn : NodeOk V n ss s ks) (hk : n.kids = ss.length) : WF V [s] (d + 1) (n :: ks) := by
 have := WF.cons h hn hk .nil
 rwa [List.append_nil] at this
def GT (V : List Var) (s d m : Nat) (t : Term) : Prop := WF V [s] d t ∧ t.length ≤ m ∧ 1 ≤ s ∧ s ≤ 4
theorem GT.up {V : List Var} {s d m d' m' : Nat} {t : Term} (h : GT V s d m t) (hd : d ≤ d') (hm : m ≤ m') : GT V s d' m' t := ⟨h.1.up hd, by have := h.2.1; omega, h.2.2⟩
theorem GT.leaf {V : List Var} {n : Node} {s : Nat} (hn : NodeOk V n [] s []) (hk : n.kids = 0) (h1 : 1 ≤ s) (h2 : s ≤ 4) : GT V s 1 1 [n] := ⟨WF.one (d := 0) .nil hn hk, by simp, h1, h2⟩
theorem forest {V : List Var} {d : Nat} : ∀ {l : List (Nat × Term)}, (∀ p ∈ l, WF V [p.1] d p.2) → WF V (l.map (·.1)) d (l.map (·.2)).flatten
 | [], _ => .nil
 | p :: l, h => by
   have := (h p List.mem_cons_self).append (forest (l := l) fun q hq => h q (List.mem_cons_of_mem _ hq))
   simpa using this
theorem ints_itext {z : Int} (h : z.natAbs < 10 ^ 40) : IntS (itext z) := ⟨z, rfl, h⟩
theorem ints_dig {k : Nat} (h : k < 10) : IntS [48 + k] := ⟨k, by rw [itext, if_neg (by omega), Int.natAbs_natCast, dec_lt h], by simp; omega⟩
theorem Pure.tab {f : Nat} {args : List AV} {tab : List (List AV × AV)} {v : AV} (hext : Gam.ext f = some (inTab tab)) (hobs : obsL args = []) (hv : inTab tab (cvL args) = some v) : Pure Gam f args v := by
 intro h clk
 constructor
 · refine ⟨0, ?_⟩
   unfold callA callWith
   simp only [hext, passArgs_cv hobs, lent_nil hobs, List.isEmpty_nil, if_true, hv, Option.map_some]
 · unfold callFoot
   simp only [hext, hobs, List.map_nil, List.append_nil]
def value (s : Nat) (b : Bool) (a : List Nat) (ks vs : List AV) : AV := .agg [nat s, .bool b, .str a, .sl ks .no, .sl vs .no]
def SmallV (s : Nat) (v : AV) : Prop := ∃ t, inTab tab188 [v] = some (.tup [eTerm t, .int .i64 0]) ∧ (∀ V, GT V s 3 5 t) ∧ v.obs = [] ∧ v.cv = v ∧ v.ids = [] ∧ v.def? = true ∧ v.cells.length = 5 ∧ v.cells.all AV.one = true
theorem itext_dig {k : Nat} (h : k < 10) : itext (k : Int) = [48 + k] := by rw [itext, if_neg (by omega), Int.natAbs_natCast, dec_lt h]
theorem small_bool (b : Bool) : SmallV 1 (value 1 b [] [] []) := by
 cases b
 · exact ⟨[bare 2 0], rfl, fun V => (GT.leaf (.bool (.inr rfl)) rfl (by omega) (by omega)).up (by omega) (by omega), rfl, rfl, rfl, rfl, rfl, rfl⟩
 · exact ⟨[bare 1 0], rfl, fun V => (GT.leaf (.bool (.inl rfl)) rfl (by omega) (by omega)).up (by omega) (by omega), rfl, rfl, rfl, rfl, rfl, rfl⟩
theorem itext_neg {k : Nat} (h : k < 10) (h0 : 0 < k) : itext (-(k : Int)) = [45, 48 + k] := by
 rw [itext, if_pos (by omega), show (-(k : Int)).natAbs = k by omega, dec_lt h]
theorem small_num {s : Nat} (hs : s = 2 ∨ s = 3) {z : Int} (h1 : -2 ≤ z) (h2 : z ≤ 3) : SmallV s (value s false (itext z) [] []) := by
 have hi : IntS (itext z) := ints_itext (by omega)
 refine ⟨[⟨3, s, [], itext z, 0⟩], ?_, fun V => ?_, rfl, rfl, rfl, rfl, rfl, rfl⟩
 · have : itext z = [45, 50] ∧ z = -2 ∨ itext z = [45, 49] ∧ z = -1 ∨ itext z = [48] ∧ z = 0 ∨ itext z = [49] ∧ z = 1 ∨ itext z = [50] ∧ z = 2 ∨ itext z = [51] ∧ z = 3 := by
     rcases (by omega : z = -2 ∨ z = -1 ∨ z = 0 ∨ z = 1 ∨ z = 2 ∨ z = 3) with rfl | rfl | rfl | rfl | rfl | rfl
     · exact .inl ⟨itext_neg (k := 2) (by omega) (by omega), rfl⟩
     · exact .inr (.inl ⟨itext_neg (k := 1) (by omega) (by omega), rfl⟩)
     · exact .inr (.inr (.inl ⟨itext_dig (k := 0) (by omega), rfl⟩))
     · exact .inr (.inr (.inr (.inl ⟨itext_dig (k := 1) (by omega), rfl⟩)))
     · exact .inr (.inr (.inr (.inr (.inl ⟨itext_dig (k := 2) (by omega), rfl⟩))))
     · exact .inr (.inr (.inr (.inr (.inr ⟨itext_dig (k := 3) (by omega), rfl⟩))))
   rcases hs with rfl | rfl <;> rcases this with ⟨e, _⟩ | ⟨e, _⟩ | ⟨e, _⟩ | ⟨e, _⟩ | ⟨e, _⟩ | ⟨e, _⟩ <;> rw [e] <;> rfl
 · rcases hs with rfl | rfl
   · exact (GT.leaf (.int hi) rfl (by omega) (by omega)).up (by omega) (by omega)
   · exact (GT.leaf (.real (.inl hi)) rfl (by omega) (by omega)).up (by omega) (by omega)
def arr0 (k : Nat) : Term := [bare 20 1, ⟨3, 2, [], [48 + k], 0⟩]
def arr1 (k i j : Nat) : Term := [bare 19 3, bare 20 1, ⟨3, 2, [], [48 + k], 0⟩, ⟨3, 2, [], [48 + i], 0⟩, ⟨3, 2, [], [48 + j], 0⟩]
theorem wf_num {V : List Var} {k d : Nat} (h : k < 10) : WF V [2] (d + 1) [⟨3, 2, [], [48 + k], 0⟩] := WF.one .nil (.int (ints_dig h)) rfl
theorem wf_arr0 {V : List Var} {k d : Nat} (h : k < 10) : WF V [4] (d + 2) (arr0 k) := WF.one (wf_num h) .const rfl
theorem gt_arr0 {V : List Var} {k : Nat} (h : k < 10) : GT V 4 3 5 (arr0 k) := ⟨wf_arr0 h, by simp [arr0], by omega, by omega⟩
theorem gt_arr1 {V : List Var} {k i j : Nat} (h : k < 10) (hi : i < 10) (hj : j < 10) : GT V 4 3 5 (arr1 k i j) := by
 refine ⟨?_, by simp [arr1], by omega, by omega⟩
 have := ((wf_arr0 (V := V) (d := 0) h).append (wf_num (d := 1) hi)).append (wf_num (d := 1) hj)
 exact WF.one this .store rfl
def arrV (k i j : Nat) : AV := if j = k then value 4 false [48 + k] [] [] else value 4 false [48 + k] [.str [48 + i]] [.str [48 + j]]
theorem store_tab {k i j : Nat} (hk : k < 3) (hi : i < 3) (hj : j < 3) : inTab tab73 [value 4 false [48 + k] [] [], .str [48 + i], .str [48 + j]] = some (.tup [arrV k i j, .int .i64 0]) := by
 have hk : k = 0 ∨ k = 1 ∨ k = 2 := by omega
 have hi : i = 0 ∨ i = 1 ∨ i = 2 := by omega
 have hj : j = 0 ∨ j = 1 ∨ j = 2 := by omega
 rcases hk with rfl | rfl | rfl <;> rcases hi with rfl | rfl | rfl <;> rcases hj with rfl | rfl | rfl <;> rfl
theorem small_arr {k i j : Nat} (hk : k < 3) (hi : i < 3) (hj : j < 3) : SmallV 4 (arrV k i j) := by
 refine ⟨if j = k then arr0 k else arr1 k i j, ?_, fun V => ?_, ?_⟩
 · have hk : k = 0 ∨ k = 1 ∨ k = 2 := by omega
   have hi : i = 0 ∨ i = 1 ∨ i = 2 := by omega
   have hj : j = 0 ∨ j = 1 ∨ j = 2 := by omega
   rcases hk with rfl | rfl | rfl <;> rcases hi with rfl | rfl | rfl <;> rcases hj with rfl | rfl | rfl <;> rfl
 · split
   · exact gt_arr0 (by omega)
   · exact gt_arr1 (by omega) (by omega) (by omega)
 · unfold arrV
   split <;> exact ⟨rfl, rfl, rfl, rfl, rfl, rfl⟩
theorem gen36 {l : List Int} {s : Nat} (hl : ChOk l) (h1 : 1 ≤ s) (h2 : s ≤ 4) : GenOk l 36 [nat s] fun v => SmallV s v := by
 refine GenOk.of rfl fn36 rfl rfl rfl rfl rfl fun D B p g i clk T hB hs hD hi hT => ?_
 obtain rfl | hs23 | rfl : s = 1 ∨ (s = 2 ∨ s = 3) ∨ s = 4 := by omega
 · simp only [go_sem, Nat.reduceBEq, Nat.reduceAdd, Nat.reduceLeDiff, Nat.reduceSub, reduceCtorEq, ↓reduceIte, af36, nat, hB, Int.reduceEq, decide_true, decide_false]
   refine CK_gen (gen30 hl (by decide) (by decide)) hB hs hD hi ?_
   rintro v D' i' ⟨r, rfl, hr1, hr2⟩ hB' hD' hi'
   simp only [go_sem, Nat.reduceBEq, Nat.reduceAdd, Nat.reduceLeDiff, Nat.reduceSub, reduceCtorEq, ↓reduceIte, hB', Int.reduceEq, decide_true, decide_false]
   rw [RV_one rfl rfl]
   exact hT _ _ i' (by rw [out_get hB' hs]; exact hD') hi' (small_bool _)
 · have e1 : decide ((s : Int) = 1) = false := by simp; omega
   have e2 : decide ((s : Int) = 4) = false := by simp; omega
   simp only [go_sem, Nat.reduceBEq, Nat.reduceAdd, Nat.reduceLeDiff, Nat.reduceSub, reduceCtorEq, ↓reduceIte, af36, nat, hB, Int.reduceEq, e1, e2]
   refine CK_gen (gen30 hl (by decide) (by decide)) hB hs hD hi ?_
   rintro v D' i' ⟨r, rfl, hr1, hr2⟩ hB' hD' hi'
   have e3 : IntKind.i64.wrap (r - 2) = r - 2 := wrap_i64 (by omega) (by omega)
   simp only [go_sem, Nat.reduceBEq, Nat.reduceAdd, Nat.reduceLeDiff, Nat.reduceSub, reduceCtorEq, ↓reduceIte, hB', e3]
   rw [CK_pure (pure72 (by omega) (by omega))]
   simp only [go_sem, Nat.reduceBEq, Nat.reduceAdd, Nat.reduceLeDiff, Nat.reduceSub, reduceCtorEq, ↓reduceIte, hB']
   rw [RV_one rfl rfl]
   exact hT _ _ i' (by rw [out_get hB' hs]; exact hD') hi' (small_num hs23 (by omega) (by omega))
 · simp only [go_sem, Nat.reduceBEq, Nat.reduceAdd, Nat.reduceLeDiff, Nat.reduceSub, reduceCtorEq, ↓reduceIte, af36, nat, hB, Int.reduceEq, decide_true, decide_false]
   refine CK_gen (gen30 hl (by decide) (by decide)) hB hs hD hi ?_
   rintro v D1 i1 ⟨r1, rfl, hr1, hr2⟩ hB1 hD1 hi1
   obtain ⟨k, rfl⟩ : ∃ k : Nat, r1 = k := ⟨r1.toNat, by omega⟩
   simp only [go_sem, Nat.reduceBEq, Nat.reduceAdd, Nat.reduceLeDiff, Nat.reduceSub, reduceCtorEq, ↓reduceIte, hB1]
   rw [CK_pure (pure72 (by omega) (by omega)), itext_dig (by omega)]
   simp only [go_sem, Nat.reduceBEq, Nat.reduceAdd, Nat.reduceLeDiff, Nat.reduceSub, reduceCtorEq, ↓reduceIte, hB1, K_draw]
   refine CK_gen (gen30 hl (by decide) (by decide)) hB1 hs hD1 hi1 ?_
   rintro v D2 i2 ⟨r2, rfl, hr3, hr4⟩ hB2 hD2 hi2
   obtain ⟨a, rfl⟩ : ∃ k : Nat, r2 = k := ⟨r2.toNat, by omega⟩
   simp only [go_sem, Nat.reduceBEq, Nat.reduceAdd, Nat.reduceLeDiff, Nat.reduceSub, reduceCtorEq, ↓reduceIte, hB2]
   rw [CK_pure (pure72 (by omega) (by omega)), itext_dig (by omega)]
   simp only [go_sem, Nat.reduceBEq, Nat.reduceAdd, Nat.reduceLeDiff, Nat.reduceSub, reduceCtorEq, ↓reduceIte, hB2]
   refine CK_gen (gen30 hl (by decide) (by decide)) hB2 hs hD2 hi2 ?_
   rintro v D3 i3 ⟨r3, rfl, hr5, hr6⟩ hB3 hD3 hi3
   obtain ⟨b, rfl⟩ : ∃ k : Nat, r3 = k := ⟨r3.toNat, by omega⟩
   simp only [go_sem, Nat.reduceBEq, Nat.reduceAdd, Nat.reduceLeDiff, Nat.reduceSub, reduceCtorEq, ↓reduceIte, hB3]
   rw [CK_pure (pure72 (by omega) (by omega)), itext_dig (by omega)]
   simp only [go_sem, Nat.reduceBEq, Nat.reduceAdd, Nat.reduceLeDiff, Nat.reduceSub, reduceCtorEq, ↓reduceIte, hB3]
   obtain ⟨ks, vs, hv⟩ : ∃ ks vs, arrV k a b = value 4 false [48 + k] ks vs := by
     unfold arrV
     split <;> exact ⟨_, _, rfl⟩
   have hsm := small_arr (k := k) (i := a) (j := b) (by omega) (by omega) (by omega)
   have htab := store_tab (k := k) (i := a) (j := b) (by omega) (by omega) (by omega)
   rw [hv] at hsm htab
   have hp : Pure Gam 73 [.agg [.int .i64 4, .bool false, .str [48 + k], .sl [] .nil, .sl [] .nil], .str [48 + a], .str [48 + b]] _ := Pure.tab (tab := tab73) rfl rfl htab
   rw [CK_pure hp]
   simp only [go_sem, Nat.reduceBEq, Nat.reduceAdd, Nat.reduceLeDiff, Nat.reduceSub, reduceCtorEq, ↓reduceIte, hB3, value, nat]
   refine ⟨by simp [drawOk, apart, disjoint, callAt, footAt, AOp.isCall, hB1]; omega, ?_⟩
   obtain ⟨t, q1, q2, q3, q4, q5, q6⟩ := hsm
   rw [RV_one (v := .agg [.int .i64 4, .bool false, .str [48 + k], .sl ks .no, .sl vs .no]) rfl q5]
   exact hT _ _ i3 (by rw [out_get hB3 hs]; exact hD3) hi3 ⟨t, q1, q2, q3, q4, q5, q6⟩
theorem pure188 {s : Nat} {v : AV} (hv : SmallV s v) : ∃ t, Pure Gam 188 [v] (.tup [eTerm t, .int .i64 0]) ∧ ∀ V, GT V s 3 5 t := by
 obtain ⟨t, q1, q2, q3, q4, q5, q6⟩ := hv
 refine ⟨t, Pure.tab (tab := tab188) rfl (by simp [obsL, q3]) (by simp only [cvL, q4]; exact q1), q2⟩
def TermR (V : List Var) (s d m : Nat) (v : AV) : Prop := ∃ t, v = eTerm t ∧ GT V s d m t
theorem idx_var {l : List Var} {i : Nat} {h : List AObj} {t : Tip} {k : IntKind} (hi : i < l.length) : idxAV h 2 (.sl (l.map eVar) t) (.int k (i : Int)) = some (.iptr [.str l[i].name, nat l[i].sort] 0, h) := idx_map hi rfl rfl
theorem gen143 {l : List Int} {s : Nat} {V : List Var} {u : Tip} (hl : ChOk l) (h1 : 1 ≤ s) (h2 : s ≤ 4) (hV : V.length ≤ 400) : GenOk l 143 [nat s, .sl (V.map eVar) u] (TermR V s 3 5) := by
 refine GenOk.of rfl fn143 rfl rfl rfl (az := [nat s, .sl (V.map eVar) .no]) rfl (by simp [idsL, ids_nat, AV.ids, idsL_map ids_var]) fun D B p g i clk T hB hs hD hi hT => ?_
 simp only [go_sem, Nat.reduceBEq, Nat.reduceAdd, Nat.reduceLeDiff, Nat.reduceSub, reduceCtorEq, ↓reduceIte, af143, hB]
 refine K_loop (fun m q => ∃ (j : Nat) (acc : List Var) (t : Tip) (a b c d : AObj), j ≤ V.length ∧ m = V.length - j ∧ acc.length ≤ j ∧ (∀ v ∈ acc, v ∈ V ∧ v.sort = s) ∧ q.ts 0 = .ptr p g 0 0 ∧ q.ts 1 = nat s ∧ q.ts 2 = .sl (V.map eVar) .no ∧ q.ts 7 = .sl (acc.map eVar) t ∧ q.ts 8 = .int .i64 j ∧ q.h = D ++ [a, b, c, d] ∧ TipK B 1 b t 2) V.length ?_ ?_
 · exact ⟨0, [], .nil, _, _, _, _, by simp, rfl, by simp, by simp, rfl, rfl, rfl, rfl, rfl, rfl, .inl rfl⟩
 rintro m ⟨ts, h, clk⟩ P ⟨j, acc, t, a, b, c, d, hj, rfl, hal, hacc, g0, g1, g2, g7, g8, rfl, ht⟩ hn he hr
 dsimp only at g0 g1 g2 g7 g8
 simp only [go_sem, Nat.reduceBEq, Nat.reduceAdd, Nat.reduceLeDiff, Nat.reduceSub, reduceCtorEq, ↓reduceIte, g0, g1, g2, g7, g8, List.length_map, c143_0]
 refine BK_of (fun hb => ?_) (fun hb => ?_)
 · have hlt : j < V.length := by simp at hb; omega
   simp only [go_sem, Nat.reduceBEq, Nat.reduceAdd, Nat.reduceLeDiff, Nat.reduceSub, reduceCtorEq, ↓reduceIte, g0, g1, g2, g7, g8, idx_var hlt, nat]
   have e1 : IntKind.i64.wrap ((j : Int) + 1) = ((j + 1 : Nat) : Int) := wrap_i64 (by omega) (by omega)
   refine BK_of (fun hc => ?_) (fun hc => ?_)
   · have hsort : V[j].sort = s := by simp at hc; omega
     simp only [go_sem, Nat.reduceBEq, Nat.reduceAdd, Nat.reduceLeDiff, Nat.reduceSub, reduceCtorEq, ↓reduceIte, g0, g1, g2, g7, g8, idx_var hlt, nat]
     rw [show [AV.agg [.str V[j].name, .int .i64 (V[j].sort : Int)]] = [V[j]].map eVar from rfl, append_loc hB rfl ht cells_vars cells_vars (by simp only [List.length_map, List.length_singleton]; omega)]
     simp only [go_sem, Nat.reduceBEq, Nat.reduceAdd, Nat.reduceLeDiff, Nat.reduceSub, reduceCtorEq, ↓reduceIte, g0, g1, g2, g7, g8, e1]
     refine hn (V.length - (j + 1)) _ (by omega) ⟨j + 1, acc ++ [V[j]], _, _, _, _, _, hlt, rfl, by simp; omega, ?_, g0, g1, g2, ?_, rfl, rfl, .inr (.inr ⟨_, rfl, rfl⟩)⟩
     · intro v hv
       rw [List.mem_append, List.mem_singleton] at hv
       rcases hv with hv | rfl
       · exact hacc v hv
       · exact ⟨List.getElem_mem hlt, hsort⟩
     · simp only [upd_at, Nat.reduceBEq, cond_true, cond_false, List.map_append, List.map_cons, List.map_nil]
   · simp only [go_sem, Nat.reduceBEq, Nat.reduceAdd, Nat.reduceLeDiff, Nat.reduceSub, reduceCtorEq, ↓reduceIte, g0, g1, g2, g7, g8, e1]
     exact hn (V.length - (j + 1)) _ (by omega) ⟨j + 1, acc, t, _, _, _, _, hlt, rfl, by omega, hacc, g0, g1, g2, g7, rfl, rfl, ht⟩
 · simp only [go_sem, Nat.reduceBEq, Nat.reduceAdd, Nat.reduceLeDiff, Nat.reduceSub, reduceCtorEq, ↓reduceIte, ]
   refine he _ _ ?_
   simp only [go_sem, Nat.reduceBEq, Nat.reduceAdd, Nat.reduceLeDiff, Nat.reduceSub, reduceCtorEq, ↓reduceIte, g0, g1, g2, g7, g8, List.length_map]
   refine BK_of (fun hc => ?_) (fun hc => ?_)
   · simp only [go_sem, Nat.reduceBEq, Nat.reduceAdd, Nat.reduceLeDiff, Nat.reduceSub, reduceCtorEq, ↓reduceIte, g0, g1, g2, g7, g8]
     refine CK_gen (gen36 hl h1 h2) hB hs hD hi ?_
     rintro v D1 i1 hv hB1 hD1 hi1
     simp only [go_sem, Nat.reduceBEq, Nat.reduceAdd, Nat.reduceLeDiff, Nat.reduceSub, reduceCtorEq, ↓reduceIte, g0, g1, g2, g7, g8]
     obtain ⟨t, hp, hg⟩ := pure188 hv
     rw [CK_pure hp]
     simp only [go_sem, Nat.reduceBEq, Nat.reduceAdd, Nat.reduceLeDiff, Nat.reduceSub, reduceCtorEq, ↓reduceIte, g0, g1, g2, g7, g8]
     rw [RV_eTerm]
     exact hT _ _ i1 (by rw [out_get hB1 hs]; exact hD1) hi1 ⟨t, rfl, hg V⟩
   · have hlen : acc.length ≠ 0 := by simpa using hc
     simp only [go_sem, Nat.reduceBEq, Nat.reduceAdd, Nat.reduceLeDiff, Nat.reduceSub, reduceCtorEq, ↓reduceIte, g0, g1, g2, g7, g8, List.length_map]
     refine CK_gen (gen30 hl (by omega) (by omega)) hB hs hD hi ?_
     rintro v D1 i1 ⟨r, rfl, hr1, hr2⟩ hB1 hD1 hi1
     obtain ⟨k, rfl⟩ : ∃ k : Nat, r = k := ⟨r.toNat, by omega⟩
     have hk : k < acc.length := by omega
     simp only [go_sem, Nat.reduceBEq, Nat.reduceAdd, Nat.reduceLeDiff, Nat.reduceSub, reduceCtorEq, ↓reduceIte, g0, g1, g2, g7, g8, hB1, K_draw, idx_var hk, nat]
     obtain ⟨hm, hsrt⟩ := hacc acc[k] (List.getElem_mem hk)
     have hn : NodeOk V ⟨4, s, acc[k].name, [], 0⟩ [] s [] := by
       have := NodeOk.var (ks := []) hm
       rw [hsrt] at this
       exact this
     show RV _ (some [.sl (List.map eNode [⟨4, s, acc[k].name, [], 0⟩]) .full]) _ _
     rw [RV_term]
     exact hT _ _ i1 (by rw [out_get hB1 hs]; exact hD1) hi1 ⟨_, rfl, (GT.leaf hn rfl h1 h2).up (by omega) (by omega)⟩
section
theorem pure142 {o : Nat} {l : List Term} {u : Tip} (hl : l.length ≤ 2 ^ 20) (hf : l.flatten.length ≤ 2 ^ 30) : Pure Gam 142 [nat o, .sl (l.map eTerm) u] (eTerm (bare o l.length :: l.flatten)) := by
 refine Pure.of rfl fn142 rfl rfl rfl (az := [nat o, .sl (l.map eTerm) .no]) rfl (by simp [idsL, ids_nat, AV.ids, idsL_map ids_term]) fun D B clk T hB hT => ?_
 have hp : Pure Gam 187 [.agg [.int .i64 o, .int .i64 0, .str [], .str [], .int .i64 0], .sl (l.map eTerm) .no] (eTerm (bare o l.length :: l.flatten)) := pure187 (n := bare o 0) hl hf
 simp only [go_sem, Nat.reduceBEq, Nat.reduceAdd, Nat.reduceLeDiff, Nat.reduceSub, reduceCtorEq, ↓reduceIte, af142, nat, hB, K_draw]
 rw [CK_pure hp]
 simp only [go_sem, Nat.reduceBEq, Nat.reduceAdd, Nat.reduceLeDiff, Nat.reduceSub, reduceCtorEq, ↓reduceIte, ]
 rw [RV_eTerm]
 exact hT _
theorem opn {o : Nat} {i : Int} {l : List Term} {u : Tip} (hi : i = o) (hl : l.length ≤ 2 ^ 20) (hf : l.flatten.length ≤ 2 ^ 30) : Pure Gam 142 [.int .i64 i, .sl (l.map eTerm) u] (eTerm (bare o l.length :: l.flatten)) := by
 subst hi
 exact pure142 hl hf
theorem op1 {o : Nat} {i : Int} {a : Term} (hi : i = o) (ha : a.length ≤ 2 ^ 20) : Pure Gam 142 [.int .i64 i, .sl [eTerm a] .full] (eTerm (bare o 1 :: a)) := by
 subst hi
 have := pure142 (o := o) (l := [a]) (u := .full) (by simp) (by simp; omega)
 simpa [nat] using this
theorem op2 {o : Nat} {i : Int} {a b : Term} (hi : i = o) (ha : a.length ≤ 2 ^ 20) (hb : b.length ≤ 2 ^ 20) : Pure Gam 142 [.int .i64 i, .sl [eTerm a, eTerm b] .full] (eTerm (bare o 2 :: (a ++ b))) := by
 subst hi
 have := pure142 (o := o) (l := [a, b]) (u := .full) (by simp) (by simp; omega)
 simpa [nat] using this
theorem op3 {o : Nat} {i : Int} {a b c : Term} (hi : i = o) (ha : a.length ≤ 2 ^ 20) (hb : b.length ≤ 2 ^ 20) (hc : c.length ≤ 2 ^ 20) : Pure Gam 142 [.int .i64 i, .sl [eTerm a, eTerm b, eTerm c] .full] (eTerm (bare o 3 :: (a ++ (b ++ c)))) := by
 subst hi
 have := pure142 (o := o) (l := [a, b, c]) (u := .full) (by simp) (by simp; omega)
 simpa [nat] using this
section
variable {V : List Var}
theorem GT.op1 {o s s1 d m : Nat} {a : Term} (ha : GT V s1 d m a) (hn : NodeOk V (bare o 1) [s1] s a) (h1 : 1 ≤ s) (h2 : s ≤ 4) : GT V s (d + 1) (m + 1) (bare o 1 :: a) :=
 ⟨WF.one ha.1 hn rfl, by have := ha.2.1; simp; omega, h1, h2⟩
theorem GT.op2 {o s s1 s2 d m1 m2 : Nat} {a b : Term} (ha : GT V s1 d m1 a) (hb : GT V s2 d m2 b) (hn : NodeOk V (bare o 2) [s1, s2] s (a ++ b)) (h1 : 1 ≤ s) (h2 : s ≤ 4) : GT V s (d + 1) (m1 + m2 + 1) (bare o 2 :: (a ++ b)) :=
 ⟨WF.one (ha.1.append hb.1) hn rfl, by have := ha.2.1; have := hb.2.1; simp; omega, h1, h2⟩
theorem GT.op3 {o s s1 s2 s3 d m1 m2 m3 : Nat} {a b c : Term} (ha : GT V s1 d m1 a) (hb : GT V s2 d m2 b) (hc : GT V s3 d m3 c) (hn : NodeOk V (bare o 3) [s1, s2, s3] s (a ++ (b ++ c))) (h1 : 1 ≤ s) (h2 : s ≤ 4) : GT V s (d + 1) (m1 + m2 + m3 + 1) (bare o 3 :: (a ++ (b ++ c))) :=
 ⟨WF.one (ha.1.append (hb.1.append hc.1)) hn rfl, by have := ha.2.1; have := hb.2.1; have := hc.2.1; simp; omega, h1, h2⟩
end
def TB (s d : Nat) : Nat := if s = 1 then 11 * 6 ^ d else 5 * 6 ^ d
theorem bs5 {h : List AObj} : bsV h (.int .i64 0) 5 [0, 1, 2, 3, 4] [.int .i64 2, .int .i64 2, .int .i64 3, .int .i64 4, .int .i64 1] = some (.sl [.int .i64 2, .int .i64 2, .int .i64 3, .int .i64 4, .int .i64 1] .full, h) := (rfl)
theorem idx5 {r : Nat} {h : List AObj} (hr : r < 5) : ∃ s : Nat, 1 ≤ s ∧ s ≤ 4 ∧ idxAV h 1 (.sl [.int .i64 2, .int .i64 2, .int .i64 3, .int .i64 4, .int .i64 1] .full) (.int .i64 (r : Int)) = some (.iptr [.int .i64 (s : Int)] 0, h) := by
 obtain rfl | rfl | rfl | rfl | rfl : r = 0 ∨ r = 1 ∨ r = 2 ∨ r = 3 ∨ r = 4 := by omega
 · exact ⟨2, by omega, by omega, rfl⟩
 · exact ⟨2, by omega, by omega, rfl⟩
 · exact ⟨3, by omega, by omega, rfl⟩
 · exact ⟨4, by omega, by omega, rfl⟩
 · exact ⟨1, by omega, by omega, rfl⟩
variable {l : List Int} {V : List Var}
theorem ids_vars : (AV.sl (V.map eVar) .no).ids = [] := ids_sl ids_var
theorem gen189 {d k m : Nat} {u : Tip} (hl : ChOk l) (hV : V.length ≤ 400) (hk : 3 ≤ k) (hm : 5 ≤ m) (hm2 : m ≤ 2 ^ 18) (hT : ∀ s, 2 ≤ s → s ≤ 4 → GenOk l 186 [nat s, nat d, .sl (V.map eVar) .no] (TermR V s k m)) : GenOk l 189 [nat d, .sl (V.map eVar) u] (TermR V 1 (k + 1) (2 * m + 1)) := by
 refine GenOk.of rfl fn189 rfl rfl rfl (az := [nat d, .sl (V.map eVar) .no]) rfl (by simp [idsL, ids_nat, ids_vars]) fun D B p g i clk T hB hs hD hi hR => ?_
 simp only [go_sem, Nat.reduceBEq, af189, hB, nat, K_draw, bs5]
 refine CK_gen (gen30 hl (by decide) (by decide)) hB hs hD hi ?_
 rintro v D1 i1 ⟨r, rfl, hr1, hr2⟩ hB1 hD1 hi1
 obtain ⟨q, rfl⟩ : ∃ k : Nat, r = k := ⟨r.toNat, by omega⟩
 obtain ⟨s, hs1, hs4, hidx⟩ := idx5 (r := q) (h := D1 ++ [.dead, .dead]) (by omega)
 simp only [go_sem, Nat.reduceBEq, hB1, hidx]
 refine BK_of (fun hb => ?_) (fun hb => ?_)
 · have hs1' : s = 1 := by simp at hb; omega
   subst hs1'
   simp only [go_sem, Nat.reduceBEq, hB1]
   refine CK_gen (gen30 hl (by decide) (by decide)) hB1 hs hD1 hi1 ?_
   rintro v D2 i2 ⟨r, rfl, hr3, hr4⟩ hB2 hD2 hi2
   simp only [go_sem, Nat.reduceBEq, hB2]
   refine BK_of (fun hc => ?_) (fun hc => ?_)
   · simp only [go_sem, Nat.reduceBEq, hB2]
     refine CK_gen (gen30 hl (by decide) (by decide)) hB2 hs hD2 hi2 ?_
     rintro v D3 i3 ⟨r3, rfl, hr5, hr6⟩ hB3 hD3 hi3
     simp only [go_sem, Nat.reduceBEq, hB3]
     rw [CK_pure pure141]
     simp only [go_sem, Nat.reduceBEq, hB3]
     rw [RV_eTerm]
     refine hR _ _ i3 (by rw [out_get hB3 hs]; exact hD3) hi3 ⟨_, rfl, ?_⟩
     refine (GT.leaf (n := bare (if decide (r3 = 1) = true then 1 else 2) 0) (.bool ?_) rfl (by omega) (by omega)).up (by omega) (by omega)
     split <;> simp
   · simp only [go_sem, Nat.reduceBEq, hB2]
     refine CK_gen (gen143 (s := 1) hl (by omega) (by omega) hV) hB2 hs hD2 hi2 ?_
     rintro v D3 i3 ⟨t, rfl, ht⟩ hB3 hD3 hi3
     simp only [go_sem, Nat.reduceBEq, hB3]
     rw [RV_eTerm]
     exact hR _ _ i3 (by rw [out_get hB3 hs]; exact hD3) hi3 ⟨_, rfl, ht.up (by omega) (by omega)⟩
 · have hs2 : 2 ≤ s := by simp at hb; omega
   -- the two terms
   have fin : ∀ (o : Nat) (ts : Tmps) (clk : Nat) (D2 : List AObj) (i2 : Nat) (a b : AObj), (o = 11 ∨ (s ≠ 4 ∧ (o = 12 ∨ o = 13))) → D2.length = B → D2[p]? = some (chObj g l i2) → i2 ≤ l.length → ts 8 = .int .i64 (o : Int) → ts 0 = .ptr p g 0 0 → ts 7 = .int .i64 (s : Int) → ts 1 = .int .i64 (d : Int) → ts 2 = .sl (V.map eVar) .no →
       K Gam B (.seq (.region 14 [⟨some 33, .move (.tmp 8), none⟩, ⟨some 34, .move (.tmp 0), none⟩, ⟨some 35, .move (.tmp 7), none⟩, ⟨some 36, .move (.tmp 1), none⟩, ⟨some 37, .move (.tmp 2), none⟩, ⟨some 38, .call 186 [.tmp 34, .tmp 35, .tmp 36, .tmp 37], none⟩, ⟨some 39, .move (.tmp 0), none⟩, ⟨some 40, .move (.tmp 7), none⟩, ⟨some 41, .move (.tmp 1), none⟩, ⟨some 42, .move (.tmp 2), none⟩, ⟨some 43, .call 186 [.tmp 39, .tmp 40, .tmp 41, .tmp 42], none⟩, ⟨some 44, .buildSlice 1 false (.sl [] .nil) 2 [(0, .tmp 38), (1, .tmp 43)], none⟩, ⟨some 45, .call 142 [.tmp 33, .tmp 44], none⟩, ⟨some 6, .move (.tmp 45), none⟩] []) .ret) [] ⟨ts, D2 ++ [a, b], clk⟩ (EndP [p] [.tmp 6] T) := by
     intro o ts clk D2 i2 a b ho hB2 hD2 hi2 g8 g0 g7 g1 g2
     simp only [go_sem, Nat.reduceBEq, g8, g0, g7, g1, g2]
     refine CK_gen (hT s hs2 hs4) hB2 hs hD2 hi2 ?_
     rintro v D3 i3 ⟨t1, rfl, ht1⟩ hB3 hD3 hi3
     simp only [go_sem, Nat.reduceBEq, g8, g0, g7, g1, g2]
     refine CK_gen (hT s hs2 hs4) hB3 hs hD3 hi3 ?_
     rintro v D4 i4 ⟨t2, rfl, ht2⟩ hB4 hD4 hi4
     simp only [go_sem, Nat.reduceBEq, g8, g0, g7, g1, g2, cells_sl]
     have l1 := ht1.2.1
     have l2 := ht2.2.1
     rw [CK_pure (op2 rfl (by omega) (by omega))]
     simp only [go_sem, Nat.reduceBEq, ]
     rw [RV_eTerm]
     refine hR _ _ i4 (by rw [out_get hB4 hs]; exact hD4) hi4 ⟨_, rfl, (GT.op2 ht1 ht2 ?_ (by omega) (by omega)).up (by omega) (by omega)⟩
     rcases ho with rfl | ⟨hs', ho⟩
     · exact .eq hs1 hs4
     · exact .cmp ho (by omega)
   simp only [go_sem, Nat.reduceBEq, hB1]
   refine BK_of (fun hc => ?_) (fun hc => ?_)
   · have hs3 : s ≠ 4 := by simp at hc; omega
     simp only [go_sem, Nat.reduceBEq, hB1]
     refine CK_gen (gen30 hl (by decide) (by decide)) hB1 hs hD1 hi1 ?_
     rintro v D2 i2 ⟨r, rfl, hr3, hr4⟩ hB2 hD2 hi2
     obtain ⟨q, rfl⟩ : ∃ k : Nat, r = k := ⟨r.toNat, by omega⟩
     have e1 : IntKind.i64.wrap (11 + (q : Int)) = ((11 + q : Nat) : Int) := by rw [wrap_i64 (by omega) (by omega)]; omega
     simp only [O_binOp, O_move, ev_tmp, ev_const, upd_at, Nat.reduceBEq, cond_true, cond_false, putA, add_plain, bv_add, PP_some, e1, O_nil_plain, K_skip_seq]
     exact fin (11 + q) _ _ D2 i2 _ _ (by omega) hB2 hD2 hi2 rfl rfl rfl rfl rfl
   · rw [K_skip_seq]
     exact fin 11 _ _ D1 i1 _ _ (.inl rfl) hB1 hD1 hi1 rfl rfl rfl rfl rfl
end
section
variable {l : List Int} {V : List Var}
def TermOk (l : List Int) (V : List Var) (d : Nat) : Prop := ∀ s, 1 ≤ s → s ≤ 4 → GenOk l 186 [nat s, nat d, .sl (V.map eVar) .no] (TermR V s (d + 4) (TB s d))
def FormOk (l : List Int) (V : List Var) (d : Nat) : Prop := GenOk l 145 [nat d, .sl (V.map eVar) .no] (TermR V 1 (d + 4) (11 * 6 ^ d))
def IteOk (l : List Int) (V : List Var) (d : Nat) : Prop := ∀ s, 1 ≤ s → s ≤ 4 → GenOk l 190 [nat s, nat d, .sl (V.map eVar) .no] (TermR V s (d + 4) (TB s d))
def ArOk (l : List Int) (V : List Var) (d : Nat) : Prop := ∀ s, s = 2 ∨ s = 3 → GenOk l 221 [nat s, nat d, .sl (V.map eVar) .no] (TermR V s (d + 4) (TB s d))
theorem minus_one {e : Nat} (he : e ≤ 10) : IntKind.i64.wrap (((e + 1 : Nat) : Int) - 1) = (e : Int) := by rw [wrap_i64 (by omega) (by omega)]; omega
theorem TB_step {s e : Nat} : TB s (e + 1) = 6 * TB s e := by unfold TB; split <;> rw [Nat.pow_succ] <;> omega
theorem TB_le {s e : Nat} : TB s e ≤ 11 * 6 ^ e := by
 have : 1 ≤ 6 ^ e := Nat.pos_of_ne_zero (by simp)
 unfold TB; split <;> omega
theorem TB_ge {s e : Nat} : 5 * 6 ^ e ≤ TB s e := by
 unfold TB; split <;> omega
theorem gen190 {e : Nat} (he : e ≤ 3) (hF : FormOk l V e) (hT : TermOk l V e) : IteOk l V (e + 1) := by
 intro s h1 h2
 refine GenOk.of rfl fn190 rfl rfl rfl (az := [nat s, nat (e + 1), .sl (V.map eVar) .no]) rfl (by simp [idsL, ids_nat, ids_vars]) fun D B p g i clk T hB hs hD hi hR => ?_
 have h6 : 6 ^ e ≤ 6 ^ 4 := Nat.pow_le_pow_right (by omega) (by omega)
 have h6' : 1 ≤ 6 ^ e := Nat.pos_of_ne_zero (by simp)
 have em := minus_one (e := e) (by omega)
 simp only [go_sem, Nat.reduceBEq, af190, hB, nat, em]
 refine CK_gen hF hB hs hD hi ?_
 rintro v D1 i1 ⟨t1, rfl, ht1⟩ hB1 hD1 hi1
 simp only [go_sem, Nat.reduceBEq, em]
 refine CK_gen (hT s h1 h2) hB1 hs hD1 hi1 ?_
 rintro v D2 i2 ⟨t2, rfl, ht2⟩ hB2 hD2 hi2
 simp only [go_sem, Nat.reduceBEq, em]
 refine CK_gen (hT s h1 h2) hB2 hs hD2 hi2 ?_
 rintro v D3 i3 ⟨t3, rfl, ht3⟩ hB3 hD3 hi3
 have l1 := ht1.2.1
 have l2 := ht2.2.1
 have l3 := ht3.2.1
 have lb : TB s e ≤ 11 * 6 ^ e := TB_le
 simp only [go_sem, Nat.reduceBEq, cells_sl]
 rw [CK_pure (op3 (o := 10) (i := 10) rfl (by omega) (by omega) (by omega))]
 simp only [go_sem, Nat.reduceBEq, ]
 rw [RV_eTerm]
 refine hR _ _ i3 (by rw [out_get hB3 hs]; exact hD3) hi3 ⟨_, rfl, (GT.op3 ht1 ht2 ht3 (.ite h1 h2) h1 h2).up (by omega) ?_⟩
 rw [TB_step]
 unfold TB
 split <;> omega
theorem gen186_leaf {s : Nat} (hl : ChOk l) (hV : V.length ≤ 400) (h1 : 1 ≤ s) (h2 : s ≤ 4) : GenOk l 186 [nat s, nat 0, .sl (V.map eVar) .no] (TermR V s 3 5) := by
 refine GenOk.of rfl fn186 rfl rfl rfl (az := [nat s, nat 0, .sl (V.map eVar) .no]) rfl (by simp [idsL, ids_nat, ids_vars]) fun D B p g i clk T hB hs hD hi hR => ?_
 simp only [go_sem, Nat.reduceBEq, af186, hB, nat, Int.reduceLE, decide_true]
 refine CK_gen (gen30 hl (by decide) (by decide)) hB hs hD hi ?_
 rintro v D1 i1 ⟨r, rfl, hr1, hr2⟩ hB1 hD1 hi1
 simp only [go_sem, Nat.reduceBEq, hB1]
 refine BK_of (fun hc => ?_) (fun hc => ?_)
 · simp only [go_sem, Nat.reduceBEq, ]
   refine CK_gen (gen36 hl h1 h2) hB1 hs hD1 hi1 ?_
   rintro v D2 i2 hv hB2 hD2 hi2
   simp only [go_sem, Nat.reduceBEq, ]
   obtain ⟨t, hp, hg⟩ := pure188 hv
   rw [CK_pure hp]
   simp only [go_sem, Nat.reduceBEq, ]
   rw [RV_eTerm]
   exact hR _ _ i2 (by rw [out_get hB2 hs]; exact hD2) hi2 ⟨t, rfl, (hg V).up (by omega) (by omega)⟩
 · simp only [go_sem, Nat.reduceBEq, ]
   refine CK_gen (gen143 hl h1 h2 hV) hB1 hs hD1 hi1 ?_
   rintro v D2 i2 ⟨t, rfl, ht⟩ hB2 hD2 hi2
   simp only [go_sem, Nat.reduceBEq, ]
   rw [RV_eTerm]
   exact hR _ _ i2 (by rw [out_get hB2 hs]; exact hD2) hi2 ⟨t, rfl, ht.up (by omega) (by omega)⟩
end
end Go.Proofs.YtbeooboebfbchaaGreatDoor.Am
