/- Walking: the reference's magnitudes. Decimal digits: comparison, plain facts. Walking: magnitudes are compared; rows of the frame. Walking: magnitudes are subtracted. Walking: magnitudes are divided. Walking: greatest common divisors, lowest terms, texts. Positional values: plain facts. -/
import Derived.Test.YtbeooboebfbchaaGreatDoorM34
import Derived.Test.YtbeooboebfbchaaGreatDoorM35
set_option linter.unusedVariables false
set_option linter.unusedSimpArgs false
namespace Go.Proofs.YtbeooboebfbchaaGreatDoor.Am
open Go
set_option maxRecDepth 100000
def Digits (s : List Nat) : Prop := s ≠ [] ∧ ∀ c ∈ s, 48 ≤ c ∧ c ≤ 57
theorem idxS_zero {h : List AObj} {c : Nat} {s : List Nat} {k : IntKind} : idxSV h (.str (c :: s)) (.int k 0) = some (.int .u8 (c : Int), h) := idxSV_str (i := 0) rfl
theorem idxS_at {h : List AObj} {s : List Nat} {i : Nat} {k : IntKind} (hi : i < s.length) : idxSV h (.str s) (.int k (i : Int)) = some (.int .u8 (s[i] : Int), h) := idxSV_str (by simp [hi])
theorem slS_one {h : List AObj} {c : Nat} {s : List Nat} {k : IntKind} : slV h none (.str (c :: s)) (some (.int k 1)) none none = some (.str s, h) := by
 simp [slV, sliceVal, bound]
theorem slS_from {h : List AObj} {s : List Nat} {i : Nat} {k : IntKind} (hi : i ≤ s.length) : slV h none (.str s) (some (.int k (i : Int))) none none = some (.str (s.drop i), h) := by
 simp [slV, sliceVal, bound, hi]
theorem slS_to {h : List AObj} {s : List Nat} {i : Nat} {k : IntKind} (hi : i ≤ s.length) : slV h none (.str s) none (some (.int k (i : Int))) none = some (.str (s.take i), h) := by
 simp [slV, sliceVal, bound, hi]
theorem RV_str {T : List Nat} {s : List Nat} {R : AV → List AObj → Prop} {h : List AObj} : RV T (some [.str s]) R h = R (.str s) h := RV_one rfl rfl
theorem RV_bool {T : List Nat} {s : Bool} {R : AV → List AObj → Prop} {h : List AObj} : RV T (some [.bool s]) R h = R (.bool s) h := RV_one rfl rfl
theorem RV_int {T : List Nat} {k : IntKind} {n : Int} {R : AV → List AObj → Prop} {h : List AObj} : RV T (some [.int k n]) R h = R (.int k n) h := RV_one rfl rfl
theorem pure148 {s : List Nat} (hs : Digits s) : Pure Gam 148 [.str s] (.str (dec (worth s))) := by
 refine Pure.of rfl fn148 rfl rfl rfl rfl rfl fun D B clk T hB hT => ?_
 simp only [go_sem, Nat.reduceBEq, af148]
 refine K_loop (fun m q => ∃ t : List Nat, m = t.length ∧ Digits t ∧ worth t = worth s ∧ q.ts 0 = .str t ∧ q.h = D ++ []) s.length ⟨s, rfl, hs, rfl, rfl, rfl⟩ ?_
 rintro m ⟨ts, h, clk⟩ P ⟨t, rfl, ht, hw, h0, rfl⟩ hn he hr
 dsimp only at h0
 have fin : Canon t → ∀ (ts' : Tmps) (clk' : Nat), ts' 0 = .str t → P (.exit 0) ⟨ts', D ++ [], clk'⟩ := by
   intro hc ts' clk' q0
   refine he _ _ ?_
   simp only [go_sem, Nat.reduceBEq, q0]
   rw [RV_str]
   have := dec_worth hc
   rw [hw] at this
   rw [← this]
   exact hT _
 obtain ⟨c, t', rfl⟩ := List.exists_cons_of_ne_nil ht.1
 by_cases hl : t' = []
 · subst hl
   simp only [go_sem, Nat.reduceBEq, h0, c148_0, Int.cast_ofNat_Int, Int.reduceLT, decide_false, Nat.zero_add]
   exact fin ⟨by simp, ht.2, by simp⟩ _ _ (by simp [upd_at, h0])
 · have hpos : 0 < t'.length := List.length_pos_iff.2 hl
   have e1 : decide ((1 : Int) < ((t'.length + 1 : Nat) : Int)) = true := by rw [decide_eq_true_iff]; omega
   by_cases hc : c = 48
   · subst hc
     simp only [go_sem, Nat.reduceBEq, h0, c148_0, e1, idxS_zero, slS_one, decide_true]
     refine hn t'.length _ (by simp) ⟨t', rfl, ⟨hl, fun d hd => ht.2 d (List.mem_cons_of_mem _ hd)⟩, ?_, rfl, rfl⟩
     rw [← hw, worth_cons]; simp
   · have e2 : decide ((c : Int) = 48) = false := by rw [decide_eq_false_iff_not]; omega
     simp only [go_sem, Nat.reduceBEq, h0, c148_0, e1, idxS_zero, slS_one, e2]
     exact fin ⟨by simp, ht.2, fun _ => by simpa using hc⟩ _ _ (by simp [upd_at, h0])
theorem pure147 {s : List Nat} (hs : Digits s) (hlen : s.length ≤ 1000) : Pure Gam 147 [.str s] (.bool true) := by
 refine Pure.of rfl fn147 rfl rfl rfl rfl rfl fun D B clk T hB hT => ?_
 simp only [go_sem, Nat.reduceBEq, af147]
 refine K_loop (fun m q => ∃ j : Nat, j ≤ s.length ∧ m = s.length - j ∧ q.ts 0 = .str s ∧ q.ts 3 = .int .i64 (j : Int) ∧ q.h = D ++ []) s.length ⟨0, by omega, rfl, rfl, rfl, rfl⟩ ?_
 rintro m ⟨ts, h, clk⟩ P ⟨j, hj, rfl, h0, h3, rfl⟩ hn he hr
 dsimp only at h0 h3
 by_cases hlt : j < s.length
 · have e1 : decide ((j : Int) < (s.length : Int)) = true := by rw [decide_eq_true_iff]; omega
   have hc := hs.2 s[j] (List.getElem_mem hlt)
   have e2 : decide ((s[j] : Int) < 48) = false := by rw [decide_eq_false_iff_not]; omega
   have e3 : decide ((57 : Int) < (s[j] : Int)) = false := by rw [decide_eq_false_iff_not]; omega
   have e4 : IntKind.i64.wrap ((j : Int) + 1) = ((j + 1 : Nat) : Int) := wrap_i64 (by omega) (by omega)
   simp only [go_sem, Nat.reduceBEq, h0, h3, c147_0, e1, idxS_at hlt, e2, e3, e4]
   exact hn (s.length - (j + 1)) _ (by omega) ⟨j + 1, hlt, rfl, h0, rfl, rfl⟩
 · have e1 : decide ((j : Int) < (s.length : Int)) = false := by rw [decide_eq_false_iff_not]; omega
   have e2 : decide (s = []) = false := by simp [hs.1]
   simp only [go_sem, Nat.reduceBEq, h0, h3, c147_0, e1]
   refine he _ _ ?_
   simp only [go_sem, Nat.reduceBEq, h0, h3, e2, Bool.not_false]
   rw [RV_bool]
   exact hT _
theorem worth_lt : ∀ {s : List Nat}, (∀ c ∈ s, 48 ≤ c ∧ c ≤ 57) → worth s < 10 ^ s.length
 | [], _ => by simp [worth]
 | c :: s, h => by
   have h1 := worth_lt (s := s) fun d hd => h d (List.mem_cons_of_mem _ hd)
   have h2 := h c List.mem_cons_self
   rw [worth_cons, List.length_cons, Nat.pow_succ]
   have : (c - 48) * 10 ^ s.length ≤ 9 * 10 ^ s.length := Nat.mul_le_mul_right _ (by omega)
   omega
theorem worth_ge {c : Nat} {s : List Nat} (hc : 49 ≤ c) : 10 ^ s.length ≤ worth (c :: s) := by
 rw [worth_cons]
 have : 1 * 10 ^ s.length ≤ (c - 48) * 10 ^ s.length := Nat.mul_le_mul_right _ (by omega)
 omega
theorem strLess_worth : ∀ {s t : List Nat}, s.length = t.length → (∀ c ∈ s, 48 ≤ c ∧ c ≤ 57) → (∀ c ∈ t, 48 ≤ c ∧ c ≤ 57) → strLess s t = decide (worth s < worth t)
 | [], [], _, _, _ => by simp [strLess]
 | a :: s, b :: t, hl, hs, ht => by
   have hl' : s.length = t.length := by simpa using hl
   have ih := strLess_worth hl' (fun d hd => hs d (List.mem_cons_of_mem _ hd)) (fun d hd => ht d (List.mem_cons_of_mem _ hd))
   have h1 := worth_lt (s := s) fun d hd => hs d (List.mem_cons_of_mem _ hd)
   have h2 := worth_lt (s := t) fun d hd => ht d (List.mem_cons_of_mem _ hd)
   have ha := hs a List.mem_cons_self
   have hb := ht b List.mem_cons_self
   rw [strLess, ih, worth_cons, worth_cons, hl']
   rw [hl'] at h1
   rcases Nat.lt_trichotomy a b with h | h | h
   · have : (a - 48 + 1) * 10 ^ t.length ≤ (b - 48) * 10 ^ t.length := Nat.mul_le_mul_right _ (by omega)
     rw [Nat.add_mul, Nat.one_mul] at this
     have e1 : decide (a < b) = true := by simp [h]
     rw [e1, Bool.true_or]
     symm
     rw [decide_eq_true_iff]
     omega
   · subst h
     simp
   · have : (b - 48 + 1) * 10 ^ t.length ≤ (a - 48) * 10 ^ t.length := Nat.mul_le_mul_right _ (by omega)
     rw [Nat.add_mul, Nat.one_mul] at this
     have e1 : decide (a < b) = false := by simp; omega
     have e2 : decide (a = b) = false := by simp; omega
     rw [e1, e2, Bool.false_or, Bool.false_and]
     symm
     rw [decide_eq_false_iff_not]
     omega
theorem dec_len_lt {a b : Nat} (h : (dec a).length < (dec b).length) : a < b := by
 have h1 := worth_lt (dec_digits a)
 rw [worth_dec] at h1
 rcases Nat.eq_zero_or_pos b with rfl | hb
 · have h3 : ([48] : List Nat).length = 1 := rfl
   rw [dec_zero, h3] at h
   have := List.length_pos_iff.2 (dec_ne a)
   omega
 · obtain ⟨c, s, hs, hc, _⟩ := dec_head hb
   have h2 := worth_ge (s := s) hc
   rw [← hs, worth_dec] at h2
   rw [hs, List.length_cons] at h
   have : 10 ^ (dec a).length ≤ 10 ^ s.length := Nat.pow_le_pow_right (by omega) (by omega)
   omega
theorem dec_less {a b : Nat} : (decide ((dec a).length < (dec b).length) || (decide ((dec a).length = (dec b).length) && strLess (dec a) (dec b))) = decide (a < b) := by
 rcases Nat.lt_trichotomy (dec a).length (dec b).length with h | h | h
 · have := dec_len_lt h
   simp [h, this]
 · rw [strLess_worth h (dec_digits a) (dec_digits b), worth_dec, worth_dec]
   simp [h]
 · have := dec_len_lt h
   have e1 : ¬ (dec a).length < (dec b).length := by omega
   have e2 : ¬ (dec a).length = (dec b).length := by omega
   have e3 : ¬ a < b := by omega
   simp [e1, e2, e3]
section
theorem pure238 {a b : Nat} : Pure Gam 238 [.str (dec a), .str (dec b)] (.int .i64 (if a < b then -1 else if a = b then 0 else 1)) := by
 refine Pure.of rfl fn238 rfl rfl rfl rfl rfl fun D B clk T hB hT => ?_
 have hd := dec_less (a := a) (b := b)
 have fin : ∀ (n : Int), n = (if a < b then -1 else if a = b then 0 else 1) → T (.int .i64 n) (D ++ []) := fun n hn => hn ▸ hT _
 have key : (decide (((dec a).length : Int) < ((dec b).length : Int)) = true ∧ a < b) ∨ (decide (((dec a).length : Int) < ((dec b).length : Int)) = false ∧ decide (((dec a).length : Int) = ((dec b).length : Int)) = true ∧ strLess (dec a) (dec b) = decide (a < b)) ∨ (decide (((dec a).length : Int) < ((dec b).length : Int)) = false ∧ decide (((dec a).length : Int) = ((dec b).length : Int)) = false ∧ b < a) := by
   rcases Nat.lt_trichotomy (dec a).length (dec b).length with h | h | h
   · exact .inl ⟨by rw [decide_eq_true_iff]; omega, dec_len_lt h⟩
   · refine .inr (.inl ⟨by rw [decide_eq_false_iff_not]; omega, by rw [decide_eq_true_iff]; omega, ?_⟩)
     rw [strLess_worth h (dec_digits a) (dec_digits b), worth_dec, worth_dec]
   · exact .inr (.inr ⟨by rw [decide_eq_false_iff_not]; omega, by rw [decide_eq_false_iff_not]; omega, dec_len_lt h⟩)
 have heq : decide (dec a = dec b) = decide (a = b) := by
   rw [decide_eq_decide]
   exact ⟨dec_inj, fun h => h ▸ rfl⟩
 rcases key with ⟨e1, h1⟩ | ⟨e1, e2, e3⟩ | ⟨e1, e2, h1⟩
 · simp only [go_sem, Nat.reduceBEq, af238, e1, Bool.not_true]
   rw [RV_int]
   exact fin _ (by rw [if_pos h1])
 · rcases Nat.lt_trichotomy a b with h | h | h
   · have e4 : decide (a < b) = true := by simp [h]
     simp only [go_sem, Nat.reduceBEq, af238, e1, e2, e3, e4, Bool.not_false]
     rw [RV_int]
     exact fin _ (by rw [if_pos h])
   · have e4 : decide (a < b) = false := by simp; omega
     have e5 : decide (a = b) = true := by simp [h]
     simp only [go_sem, Nat.reduceBEq, af238, e1, e2, e3, e4, heq, e5, Bool.not_false]
     rw [RV_int]
     exact fin _ (by rw [if_neg (by omega), if_pos h])
   · have e4 : decide (a < b) = false := by simp; omega
     have e5 : decide (a = b) = false := by simp; omega
     simp only [go_sem, Nat.reduceBEq, af238, e1, e2, e3, e4, heq, e5, Bool.not_false]
     rw [RV_int]
     exact fin _ (by rw [if_neg (by omega), if_neg (by omega)])
 · have e5 : decide (a = b) = false := by simp; omega
   simp only [go_sem, Nat.reduceBEq, af238, e1, e2, heq, e5, Bool.not_false]
   rw [RV_int]
   exact fin _ (by rw [if_neg (by omega), if_neg (by omega)])
section
variable {D L : List AObj} {B k g i : Nat} {es : List AV} {w : Bool}
theorem row_store {K K' : IntKind} {n m : Int} (hB : D.length = B) (hL : L[k]? = some (.blk g es true w 0)) (hi : es[i]? = some (.int K' m)) : storeV (D ++ L) 1 (.int K n) (.ptr (B + k) g i 0) = some (.undef, D ++ L.set k (.blk g (es.set i (.int K n)) true w 0)) := by
 have hb : blkAt (D ++ L) (B + k) g = some (es, true, w, 0) := by rw [loc_blk hB]; exact blk_at hL
 rw [storeV_ptr, hb]
 have hp : pub (D ++ L) (.int K n) = some (.int K n, D ++ L) := rfl
 simp only [hi, if_true, hp, def_int, cells_int, List.length_singleton, List.all_cons, List.all_nil, one_int, Bool.and_self, true_and, Nat.zero_le, obs_int, List.map_nil, List.contains_nil, Bool.not_false, and_self, implies_true, splice, cells_int, Nat.zero_add, Nat.le_refl, List.take_zero, List.nil_append, List.drop_succ_cons, List.drop_nil, List.append_nil, Option.map_some, remade_int, getD_zero, loc_set hB]
theorem row_idx {len : Nat} {K : IntKind} {x : AV} (hB : D.length = B) (hL : L[k]? = some (.blk g es true w 0)) (hi : es[i]? = some x) (hx : x.cells = [x]) (hl : i < len) : idxAV (D ++ L) 1 (.ob (B + k) g 0 len) (.int K (i : Int)) = some (.ptr (B + k) g i 0, D ++ L) := by
 have hb : blkAt (D ++ L) (B + k) g = some (es, true, w, 0) := by rw [loc_blk hB]; exact blk_at hL
 simp only [idxAV, Int.natCast_nonneg, if_true, hb, Int.toNat_natCast, Nat.zero_add, hi, hl, hx, List.length_singleton, and_self]
theorem row_src {len : Nat} (hB : D.length = B) (hL : L[k]? = some (.blk g es true w 0)) (hl : es.length = len) : srcOf (D ++ L) (.ob (B + k) g 0 len) = some es := by
 have hb : blkAt (D ++ L) (B + k) g = some (es, true, w, 0) := by rw [loc_blk hB]; exact blk_at hL
 simp only [srcOf, rowOf, hb, Nat.zero_add, hl, Nat.le_refl, if_true, List.drop_zero]
 rw [List.take_of_length_le (by omega)]
end
def bytes (s : List Nat) : List AV := s.map fun (c : Nat) => .int .u8 (c : Int)
theorem bytesOf_bytes : ∀ {s : List Nat}, (∀ c ∈ s, c < 256) → bytesOf (bytes s) = some s
 | [], _ => rfl
 | c :: s, h => by
   have ih := bytesOf_bytes (s := s) fun d hd => h d (List.mem_cons_of_mem _ hd)
   have hc := h c List.mem_cons_self
   unfold bytes at ih ⊢
   simp only [List.map_cons, bytesOf, ih, Option.map_some, Int.toNat_natCast]
   rw [if_pos (by omega)]
end
theorem msV_ok {h : List AObj} {s g b n : Nat} {z : AV} {k j : IntKind} (hz : z.def? = true) (hn : (n : Int) * ((b : Int) + 1) ≤ 2 ^ 46) : msV h s g z b (.int k (n : Int)) (.int j (n : Int)) = some (.ob s g 0 n, h.set s (.blk g (List.replicate n z) true false 0)) := by
 have h1 : (0 ≤ (n : Int) ∧ (n : Int) ≤ n ∧ (n : Int) * (b + 1) ≤ (roomBound : Int) ∧ z.def? = true) := by
   refine ⟨by omega, by omega, ?_, hz⟩
   simpa [roomBound] using hn
 simp only [msV, if_pos h1, Int.toNat_natCast]
theorem rep_set {n i : Nat} {x y : AV} {suf : List AV} (hi : i < n) : (List.replicate (n - i) x ++ suf).set (n - 1 - i) y = List.replicate (n - (i + 1)) x ++ (y :: suf) := by
 obtain ⟨m, hm⟩ : ∃ m, n - i = m + 1 := ⟨n - i - 1, by omega⟩
 rw [hm, show n - 1 - i = m by omega, show n - (i + 1) = m by omega, List.replicate_succ', List.append_assoc, List.set_append_right _ _ (by simp)]
 simp
theorem rep_get {n i : Nat} {x : AV} {suf : List AV} (hi : i < n) : (List.replicate (n - i) x ++ suf)[n - 1 - i]? = some x := by
 rw [List.getElem?_append_left (by simp; omega), List.getElem?_replicate, if_pos (by omega)]
theorem drop_digit {A : List Nat} {i : Nat} (hi : i < A.length) : worth (A.drop (A.length - (i + 1))) = (A[A.length - 1 - i] - 48) * 10 ^ i + worth (A.drop (A.length - i)) := by
 have h1 : A.drop (A.length - (i + 1)) = A[A.length - 1 - i] :: A.drop (A.length - i) := by
   rw [List.drop_eq_getElem_cons (by omega)]
   congr 2 <;> omega
 rw [h1, worth_cons, List.length_drop, show A.length - (A.length - i) = i by omega]
theorem u8_digit {c : Nat} (h : 48 ≤ c ∧ c ≤ 57) : IntKind.u8.wrap ((c : Int) - 48) = ((c - 48 : Nat) : Int) := by rw [IntWalk.u8_in _ (by omega)]; omega
theorem pure239 {a b : Nat} (hba : b ≤ a) (hlen : (dec a).length ≤ 200) (hlenb : (dec b).length ≤ 200) : Pure Gam 239 [.str (dec a), .str (dec b)] (.str (dec (a - b))) := by
 refine Pure.of rfl fn239 rfl rfl rfl rfl rfl fun D B clk T hB hT => ?_
 have hda := dec_digits a
 have hdb := dec_digits b
 have hna : dec a ≠ [] := dec_ne a
 have hlab : (dec b).length ≤ (dec a).length := Classical.byContradiction fun h => by
   have := dec_len_lt (a := a) (b := b) (by omega)
   omega
 have hwa := worth_dec a
 have hwb := worth_dec b
 generalize hA : dec a = A at *
 generalize hBb : dec b = C at *
 simp only [go_sem, Nat.reduceBEq, af239, hB, msV_ok (z := .int .u8 0) (n := A.length) (b := 1) rfl (by omega)]
 refine K_loop (fun m q => ∃ (i r : Nat) (suf : List Nat) (gr : Nat), i ≤ A.length ∧ m = A.length - i ∧ suf.length = i ∧ (∀ c ∈ suf, 48 ≤ c ∧ c ≤ 57) ∧ r ≤ 1 ∧ worth suf + worth (C.drop (C.length - i)) + 0 = worth (A.drop (A.length - i)) + r * 10 ^ i ∧
   q.ts 0 = .str A ∧ q.ts 1 = .str C ∧ q.ts 5 = .ob (B + 0) gr 0 A.length ∧ q.ts 6 = .int .i64 (r : Int) ∧ q.ts 7 = .int .i64 (i : Int) ∧ q.h = D ++ [.blk gr (List.replicate (A.length - i) (.int .u8 0) ++ bytes suf) true false 0]) A.length ?_ ?_
 · refine ⟨0, 0, [], _, by omega, rfl, rfl, by simp, by omega, by simp [worth], rfl, rfl, rfl, rfl, rfl, by simp [bytes]⟩
 rintro m ⟨ts, h, clk⟩ P ⟨i, r, suf, gr, hi, rfl, hsl, hsd, hr1, hw, h0, h1, h5, h6, h7, rfl⟩ hn he hr
 dsimp only at h0 h1 h5 h6 h7
 by_cases hlt : i < A.length
 · have e1 : decide ((i : Int) < (A.length : Int)) = true := by rw [decide_eq_true_iff]; omega
   have ea : IntKind.i64.wrap (IntKind.i64.wrap ((A.length : Int) - 1) - (i : Int)) = ((A.length - 1 - i : Nat) : Int) := by rw [wrap_i64 (n := (A.length : Int) - 1) (by omega) (by omega), wrap_i64 (by omega) (by omega)]; omega
   have hia : A.length - 1 - i < A.length := by omega
   have hca := hda _ (List.getElem_mem hia)
   have hdig := drop_digit hlt
   generalize hc : A[A.length - 1 - i] = c at hca hdig
   have hixa : ∀ h, idxSV h (.str A) (.int .i64 ((A.length - 1 - i : Nat) : Int)) = some (.int .u8 (c : Int), h) := fun h => by rw [idxS_at hia, hc]
   have ec := u8_digit hca
   have ei : IntKind.i64.wrap ((i : Int) + 1) = ((i + 1 : Nat) : Int) := wrap_i64 (by omega) (by omega)
   have ec2 : IntKind.i64.wrap ((c - 48 : Nat) : Int) = ((c - 48 : Nat) : Int) := wrap_i64 (by omega) (by omega)
   -- what is left is one digit and a borrow
   have fin : ∀ (s : Int) (d : Nat), d ≤ 9 → s = ((c - 48 : Nat) : Int) - r - (d : Int) → worth (C.drop (C.length - (i + 1))) = d * 10 ^ i + worth (C.drop (C.length - i)) →
       ∀ (r' : Nat) (e : Nat), ((s < 0 ∧ r' = 1 ∧ (e : Int) = s + 10) ∨ (0 ≤ s ∧ r' = 0 ∧ (e : Int) = s)) → ∀ (ts' : Tmps) (clk' : Nat), ts' 0 = .str A → ts' 1 = .str C → ts' 5 = .ob (B + 0) gr 0 A.length → ts' 6 = .int .i64 (r' : Int) → ts' 7 = .int .i64 ((i + 1 : Nat) : Int) → P .norm ⟨ts', D ++ [.blk gr (List.replicate (A.length - (i + 1)) (.int .u8 0) ++ bytes ((48 + e) :: suf)) true false 0], clk'⟩ := by
     intro s d hd hs hcd r' e hre ts' clk' q0 q1 q5 q6 q7
     refine hn (A.length - (i + 1)) _ (by omega) ⟨i + 1, r', (48 + e) :: suf, gr, hlt, rfl, by simp [hsl], ?_, by omega, ?_, q0, q1, q5, q6, q7, rfl⟩
     · intro c' hc'
       rw [List.mem_cons] at hc'
       rcases hc' with rfl | hc'
       · omega
       · exact hsd c' hc'
     · rw [worth_cons, hsl, hcd, hdig, Nat.pow_succ, Nat.add_sub_cancel_left]
       have hx : e + d + r = (c - 48) + r' * 10 := by omega
       have := congrArg (· * 10 ^ i) hx
       simp only [Nat.add_mul] at this
       rw [Nat.mul_assoc] at this
       rw [Nat.mul_comm (10 ^ i) 10]
       omega
   have hstore : ∀ (g' : Nat) (x : Int), storeV (D ++ [.blk g' (List.replicate (A.length - i) (.int .u8 0) ++ bytes suf) true false 0]) 1 (.int .u8 x) (.ptr (B + 0) g' (A.length - 1 - i) 0) = some (.undef, D ++ [.blk g' (List.replicate (A.length - (i + 1)) (.int .u8 0) ++ (.int .u8 x :: bytes suf)) true false 0]) := fun g' x => by
     have h := row_store (K := .u8) (n := x) (K' := .u8) (m := 0) (D := D) (B := B) (g := g') (i := A.length - 1 - i) (es := List.replicate (A.length - i) (AV.int .u8 0) ++ bytes suf) (L := [AObj.blk g' (List.replicate (A.length - i) (AV.int .u8 0) ++ bytes suf) true false 0]) (k := 0) (w := false) hB rfl (rep_get hlt)
     rw [rep_set hlt] at h
     exact h
   have hidx : ∀ (g' : Nat), idxAV (D ++ [.blk g' (List.replicate (A.length - i) (.int .u8 0) ++ bytes suf) true false 0]) 1 (.ob (B + 0) g' 0 A.length) (.int .i64 ((A.length - 1 - i : Nat) : Int)) = some (.ptr (B + 0) g' (A.length - 1 - i) 0, D ++ [.blk g' (List.replicate (A.length - i) (.int .u8 0) ++ bytes suf) true false 0]) := fun g' =>
     row_idx (L := [.blk g' (List.replicate (A.length - i) (.int .u8 0) ++ bytes suf) true false 0]) (k := 0) hB rfl (rep_get hlt) rfl (by omega)
   have e8 : ∀ e : Nat, e ≤ 9 → IntKind.u8.wrap (IntKind.i64.wrap (48 + (e : Int))) = ((48 + e : Nat) : Int) := fun e h => by rw [wrap_i64 (by omega) (by omega), IntWalk.u8_in _ (by omega)]; omega
   have hsub1 : IntKind.i64.wrap (((c - 48 : Nat) : Int) - (r : Int)) = ((c - 48 : Nat) : Int) - (r : Int) := wrap_i64 (by omega) (by omega)
   by_cases hib : i < C.length
   · have e2 : decide ((i : Int) < (C.length : Int)) = true := by rw [decide_eq_true_iff]; omega
     have eb : IntKind.i64.wrap (IntKind.i64.wrap ((C.length : Int) - 1) - (i : Int)) = ((C.length - 1 - i : Nat) : Int) := by rw [wrap_i64 (n := (C.length : Int) - 1) (by omega) (by omega), wrap_i64 (by omega) (by omega)]; omega
     have hic : C.length - 1 - i < C.length := by omega
     have hcc := hdb _ (List.getElem_mem hic)
     have hdigb := drop_digit hib
     generalize hc2 : C[C.length - 1 - i] = d at hcc hdigb
     have hixb : ∀ h, idxSV h (.str C) (.int .i64 ((C.length - 1 - i : Nat) : Int)) = some (.int .u8 (d : Int), h) := fun h => by rw [idxS_at hic, hc2]
     have ed := u8_digit hcc
     have ed2 : IntKind.i64.wrap ((d - 48 : Nat) : Int) = ((d - 48 : Nat) : Int) := wrap_i64 (by omega) (by omega)
     have hsub2 : IntKind.i64.wrap (((c - 48 : Nat) : Int) - (r : Int) - ((d - 48 : Nat) : Int)) = ((c - 48 : Nat) : Int) - (r : Int) - ((d - 48 : Nat) : Int) := wrap_i64 (by omega) (by omega)
     have fin' := fin (((c - 48 : Nat) : Int) - r - ((d - 48 : Nat) : Int)) (d - 48) (by omega) rfl hdigb
     by_cases hneg : ((c - 48 : Nat) : Int) - (r : Int) - ((d - 48 : Nat) : Int) < 0
     · have e3 : decide (((c - 48 : Nat) : Int) - (r : Int) - ((d - 48 : Nat) : Int) < 0) = true := by rw [decide_eq_true_iff]; exact hneg
       obtain ⟨e, he2⟩ : ∃ e : Nat, (e : Int) = ((c - 48 : Nat) : Int) - (r : Int) - ((d - 48 : Nat) : Int) + 10 := ⟨(((c - 48 : Nat) : Int) - (r : Int) - ((d - 48 : Nat) : Int) + 10).toNat, by omega⟩
       have e4 : IntKind.i64.wrap (((c - 48 : Nat) : Int) - (r : Int) - ((d - 48 : Nat) : Int) + 10) = (e : Int) := by rw [wrap_i64 (by omega) (by omega)]; omega
       simp only [go_sem, Nat.reduceBEq, h0, h1, h5, h6, h7, c239_0, hB, e1, ea, hixa, ec, ec2, hsub1, e2, eb, hixb, ed, ed2, hsub2, e3, e4, e8 e (by omega), hidx, hstore, ei]
       exact fin' 1 e (.inl ⟨hneg, rfl, he2⟩) _ _ (by simp [upd_at, h0]) (by simp [upd_at, h1]) (by simp [upd_at, h5]) (by simp [upd_at]) (by simp [upd_at])
     · have e3 : decide (((c - 48 : Nat) : Int) - (r : Int) - ((d - 48 : Nat) : Int) < 0) = false := by rw [decide_eq_false_iff_not]; exact hneg
       obtain ⟨e, he2⟩ : ∃ e : Nat, ((c - 48 : Nat) : Int) - (r : Int) - ((d - 48 : Nat) : Int) = (e : Int) := ⟨(((c - 48 : Nat) : Int) - (r : Int) - ((d - 48 : Nat) : Int)).toNat, by omega⟩
       rw [he2] at e3
       have hsub2 := hsub2.trans he2
       simp only [go_sem, Nat.reduceBEq, h0, h1, h5, h6, h7, c239_0, hB, e1, ea, hixa, ec, ec2, hsub1, e2, eb, hixb, ed, ed2, hsub2, e3, e8 e (by omega), hidx, hstore, ei]
       exact fin' 0 e (.inr ⟨by omega, rfl, he2.symm⟩) _ _ (by simp [upd_at, h0]) (by simp [upd_at, h1]) (by simp [upd_at, h5]) (by simp [upd_at]) (by simp [upd_at])
   · have e2 : decide ((i : Int) < (C.length : Int)) = false := by rw [decide_eq_false_iff_not]; omega
     have fin' := fin (((c - 48 : Nat) : Int) - r) 0 (by omega) (by omega) (by rw [show C.length - (i + 1) = 0 by omega, show C.length - i = 0 by omega]; omega)
     by_cases hneg : ((c - 48 : Nat) : Int) - (r : Int) < 0
     · have e3 : decide (((c - 48 : Nat) : Int) - (r : Int) < 0) = true := by rw [decide_eq_true_iff]; exact hneg
       obtain ⟨e, he2⟩ : ∃ e : Nat, (e : Int) = ((c - 48 : Nat) : Int) - (r : Int) + 10 := ⟨(((c - 48 : Nat) : Int) - (r : Int) + 10).toNat, by omega⟩
       have e4 : IntKind.i64.wrap (((c - 48 : Nat) : Int) - (r : Int) + 10) = (e : Int) := by rw [wrap_i64 (by omega) (by omega)]; omega
       simp only [go_sem, Nat.reduceBEq, h0, h1, h5, h6, h7, c239_0, hB, e1, ea, hixa, ec, ec2, hsub1, e2, e3, e4, e8 e (by omega), hidx, hstore, ei]
       exact fin' 1 e (.inl ⟨hneg, rfl, he2⟩) _ _ (by simp [upd_at, h0]) (by simp [upd_at, h1]) (by simp [upd_at, h5]) (by simp [upd_at]) (by simp [upd_at])
     · have e3 : decide (((c - 48 : Nat) : Int) - (r : Int) < 0) = false := by rw [decide_eq_false_iff_not]; exact hneg
       obtain ⟨e, he2⟩ : ∃ e : Nat, ((c - 48 : Nat) : Int) - (r : Int) = (e : Int) := ⟨(((c - 48 : Nat) : Int) - (r : Int)).toNat, by omega⟩
       rw [he2] at e3
       have hsub1 := hsub1.trans he2
       simp only [go_sem, Nat.reduceBEq, h0, h1, h5, h6, h7, c239_0, hB, e1, ea, hixa, ec, ec2, hsub1, e2, e3, e8 e (by omega), hidx, hstore, ei]
       exact fin' 0 e (.inr ⟨by omega, rfl, he2.symm⟩) _ _ (by simp [upd_at, h0]) (by simp [upd_at, h1]) (by simp [upd_at, h5]) (by simp [upd_at]) (by simp [upd_at])
 · have hiA : i = A.length := by omega
   have e1 : decide ((i : Int) < (A.length : Int)) = false := by rw [decide_eq_false_iff_not]; omega
   have hwl := worth_lt hsd
   have hr0 : r = 0 := Classical.byContradiction fun h => by
     have : r = 1 := by omega
     subst this
     rw [hiA, Nat.sub_self, List.drop_zero, show C.length - A.length = 0 by omega, List.drop_zero, hwa, hwb] at hw
     rw [hsl, hiA] at hwl
     omega
   have hws : worth suf = a - b := by
     rw [hiA, Nat.sub_self, List.drop_zero, show C.length - A.length = 0 by omega, List.drop_zero, hwa, hwb, hr0] at hw
     omega
   have hsne : suf ≠ [] := fun h => hna (List.length_eq_zero_iff.1 (by rw [← hiA, ← hsl, h]; rfl))
   simp only [go_sem, Nat.reduceBEq, h0, h1, h5, h6, h7, c239_0, e1]
   refine he _ _ ?_
   have hof : ofBV (D ++ [.blk gr (List.replicate (A.length - i) (.int .u8 0) ++ bytes suf) true false 0]) (.ob (B + 0) gr 0 A.length) = some (.str suf, D ++ [.blk gr (List.replicate (A.length - i) (.int .u8 0) ++ bytes suf) true false 0]) := by
     have hs := row_src (B := B) (D := D) (L := [.blk gr (List.replicate (A.length - i) (.int .u8 0) ++ bytes suf) true false 0]) (k := 0) (g := gr) (len := A.length) hB rfl (by simp [bytes, hsl]; omega)
     simp only [ofBV, hs, Option.bind_some]
     rw [show A.length - i = 0 by omega, List.replicate_zero, List.nil_append, bytesOf_bytes fun c hc => by have := hsd c hc; omega]
     rfl
   simp only [go_sem, Nat.reduceBEq, h5, hof]
   rw [CK_pure (pure148 ⟨hsne, hsd⟩), hws]
   simp only [go_sem, Nat.reduceBEq, ]
   rw [RV_str]
   exact hT _
theorem divInner {B clk r b : Nat} {D : List AObj} {o : AObj} {ts : Tmps} {ks : List Kf} {Q : Post} (hb : 0 < b) (hr : r < 10 * b) (hl : (dec r).length ≤ 200) (hlb : (dec b).length ≤ 200) (h1 : ts 1 = .str (dec b)) (h7 : ts 7 = .str (dec r)) (h9 : ts 9 = .int .u8 48)
   (hQ : ∀ (ts' : Tmps) (clk' : Nat), ts' 0 = ts 0 → ts' 1 = ts 1 → ts' 6 = ts 6 → ts' 8 = ts 8 → ts' 7 = .str (dec (r % b)) → ts' 9 = .int .u8 ((48 + r / b : Nat) : Int) → K Gam B (.exit 2) ks ⟨ts', D ++ [o], clk'⟩ Q) :
   K Gam B (.loop c235_0) ks ⟨ts, D ++ [o], clk⟩ Q := by
 refine K_loop (fun m q => ∃ (x d : Nat), m = x ∧ r = x + d * b ∧ d ≤ 9 ∧ (dec x).length ≤ 200 ∧ q.ts 0 = ts 0 ∧ q.ts 1 = ts 1 ∧ q.ts 6 = ts 6 ∧ q.ts 8 = ts 8 ∧ q.ts 7 = .str (dec x) ∧ q.ts 9 = .int .u8 ((48 + d : Nat) : Int) ∧ q.h = D ++ [o]) r ⟨r, 0, rfl, by omega, by omega, hl, rfl, rfl, rfl, rfl, h7, h9, rfl⟩ ?_
 rintro m ⟨ts2, h, clk⟩ P ⟨x, d, rfl, hx, hd, hlx, q0, q1, q6, q8, q7, q9, rfl⟩ hn he hret
 dsimp only at q0 q1 q6 q8 q7 q9
 rw [h1] at q1
 have hcmp := pure238 (a := m) (b := b)
 by_cases hlt : m < b
 · rw [if_pos hlt] at hcmp
   simp only [go_sem, Nat.reduceBEq, q1, q7, q9, c235_0]
   rw [CK_pure hcmp]
   simp only [go_sem, Nat.reduceBEq, Int.reduceLE, decide_false]
   refine he _ _ ?_
   have e1 : r % b = m := by rw [hx, Nat.add_mul_mod_self_right, Nat.mod_eq_of_lt hlt]
   have e2 : r / b = d := by rw [hx, Nat.add_mul_div_right _ _ hb, Nat.div_eq_of_lt hlt, Nat.zero_add]
   exact hQ _ _ (by simp [upd_at, q0]) (by simp [upd_at, q1, h1]) (by simp [upd_at, q6]) (by simp [upd_at, q8]) (by simp [upd_at, q7, e1]) (by simp [upd_at, q9, e2])
 · have hge : ∃ n : Int, (if m < b then -1 else if m = b then 0 else 1) = n ∧ 0 ≤ n := by
     rw [if_neg hlt]
     split
     · exact ⟨0, rfl, by omega⟩
     · exact ⟨1, rfl, by omega⟩
   obtain ⟨n, hn1, hn2⟩ := hge
   rw [hn1] at hcmp
   have e1 : decide (0 ≤ n) = true := by rw [decide_eq_true_iff]; exact hn2
   have hd9 : d + 1 ≤ 9 := by
     have : d * b + b ≤ r := by omega
     rcases Nat.lt_or_ge d 9 with h | h
     · omega
     · have : 9 * b ≤ d * b := Nat.mul_le_mul_right _ h
       omega
   have e2 : IntKind.u8.wrap (((48 + d : Nat) : Int) + 1) = ((48 + (d + 1) : Nat) : Int) := by rw [IntWalk.u8_in _ (by omega)]; omega
   simp only [go_sem, Nat.reduceBEq, q1, q7, q9, c235_0]
   rw [CK_pure hcmp]
   simp only [go_sem, Nat.reduceBEq, e1, q1, q7]
   rw [CK_pure (pure239 (by omega) hlx hlb)]
   simp only [go_sem, Nat.reduceBEq, q9, e2]
   have hlx' : (dec (m - b)).length ≤ 200 := Classical.byContradiction fun h => by
     have := dec_len_lt (a := m) (b := m - b) (by omega)
     omega
   exact hn (m - b) _ (by omega) ⟨m - b, d + 1, rfl, by rw [Nat.add_mul, Nat.one_mul]; omega, hd9, hlx', q0, by rw [h1]; exact q1, q6, q8, rfl, rfl, rfl⟩
theorem worth_take {A : List Nat} {i : Nat} (hi : i < A.length) : worth (A.take (i + 1)) = 10 * worth (A.take i) + (A[i] - 48) := by
 rw [List.take_succ_eq_append_getElem hi, worth_snoc]
theorem rep_get2 {n i : Nat} {x : AV} {suf : List AV} (hl : suf.length = i) (hi : i < n) : (suf ++ List.replicate (n - i) x)[i]? = some x := by
 rw [List.getElem?_append_right (by omega), List.getElem?_replicate, if_pos (by omega)]
theorem rep_set2 {n i : Nat} {x y : AV} {suf : List AV} (hl : suf.length = i) (hi : i < n) : (suf ++ List.replicate (n - i) x).set i y = (suf ++ [y]) ++ List.replicate (n - (i + 1)) x := by
 obtain ⟨m, hm⟩ : ∃ m, n - i = m + 1 := ⟨n - i - 1, by omega⟩
 rw [hm, show n - (i + 1) = m by omega, List.replicate_succ, List.set_append_right _ _ (by omega), hl, Nat.sub_self, List.set_cons_zero, List.append_assoc]
 rfl
theorem bytes_snoc {s : List Nat} {c : Nat} : bytes s ++ [.int .u8 (c : Int)] = bytes (s ++ [c]) := by simp [bytes]
theorem bytes_len {s : List Nat} : (bytes s).length = s.length := by simp [bytes]
theorem pure235 {a b : Nat} (hb : 0 < b) (hlen : (dec a).length ≤ 150) (hlenb : (dec b).length ≤ 150) : Pure Gam 235 [.str (dec a), .str (dec b)] (.tup [.str (dec (a / b)), .str (dec (a % b))]) := by
 refine Pure.of rfl fn235 rfl rfl rfl rfl rfl fun D B clk T hB hT => ?_
 have hda := dec_digits a
 have hna : dec a ≠ [] := dec_ne a
 have hwa := worth_dec a
 generalize hA : dec a = A at *
 simp only [go_sem, Nat.reduceBEq, af235, hB, msV_ok (z := .int .u8 0) (n := A.length) (b := 1) rfl (by omega)]
 refine K_loop (fun m q => ∃ (i : Nat) (qs : List Nat) (gr : Nat), i ≤ A.length ∧ m = A.length - i ∧ qs.length = i ∧ (∀ c ∈ qs, 48 ≤ c ∧ c ≤ 57) ∧ worth qs = worth (A.take i) / b ∧
   q.ts 0 = .str A ∧ q.ts 1 = .str (dec b) ∧ q.ts 6 = .ob (B + 0) gr 0 A.length ∧ q.ts 7 = .str (dec (worth (A.take i) % b)) ∧ q.ts 8 = .int .i64 (i : Int) ∧ q.h = D ++ [.blk gr (bytes qs ++ List.replicate (A.length - i) (.int .u8 0)) true false 0]) A.length ?_ ?_
 · refine ⟨0, [], _, by omega, rfl, rfl, by simp, by simp [worth], rfl, rfl, rfl, ?_, rfl, by simp [bytes]⟩
   simp [upd_at, worth, dec_zero]
 rintro m ⟨ts, h, clk⟩ P ⟨i, qs, gr, hi, rfl, hql, hqd, hqw, h0, h1, h6, h7, h8, rfl⟩ hn he hr
 dsimp only at h0 h1 h6 h7 h8
 have hrb : worth (A.take i) % b < b := Nat.mod_lt _ hb
 by_cases hlt : i < A.length
 · have e1 : decide ((i : Int) < (A.length : Int)) = true := by rw [decide_eq_true_iff]; omega
   have ei : IntKind.i64.wrap ((i : Int) + 1) = ((i + 1 : Nat) : Int) := wrap_i64 (by omega) (by omega)
   have hc := hda A[i] (List.getElem_mem hlt)
   have hsl : ∀ h, slV h none (.str A) (some (.int .i64 (i : Int))) (some (.int .i64 ((i + 1 : Nat) : Int))) none = some (.str [A[i]], h) := fun h => by
     have : ((A.take (i + 1)).drop i) = [A[i]] := by
       rw [List.take_succ_eq_append_getElem hlt, List.drop_append_of_le_length (by simp; omega)]
       simp
     have hle : i + 1 ≤ A.length := hlt
     simp only [slV, sliceVal, bound, Int.natCast_nonneg, if_true, Int.toNat_natCast, hle, and_true, Nat.le_add_right, this, Option.map_some]
   generalize hR : worth (A.take i) % b = R at *
   have hRl : (dec R).length ≤ 150 := Classical.byContradiction fun h => by
     have := dec_len_lt (a := b) (b := R) (by omega)
     omega
   have hdig : Digits (dec R ++ [A[i]]) := ⟨by simp, fun c hc' => by
     rw [List.mem_append, List.mem_singleton] at hc'
     rcases hc' with h | rfl
     · exact dec_digits R c h
     · exact hc⟩
   have hwr : worth (dec R ++ [A[i]]) = 10 * R + (A[i] - 48) := by rw [worth_snoc, worth_dec]
   have hrl2 : (dec (10 * R + (A[i] - 48))).length ≤ 200 := by
     have h1 := worth_lt (dec_digits R)
     rw [worth_dec] at h1
     have h2 : 10 ^ (dec R).length ≤ 10 ^ 150 := Nat.pow_le_pow_right (by omega) hRl
     exact Nat.le_trans (dec_len (k := 151) (by omega) (by rw [Nat.pow_succ]; omega)) (by omega)
   simp only [go_sem, Nat.reduceBEq, h0, h1, h6, h7, h8, c235_1, e1, ei, hsl, sv_add (a := dec R) (b := [A[i]]) (by simp; omega)]
   rw [CK_pure (pure148 hdig), hwr]
   simp only [go_sem, Nat.reduceBEq, ]
   refine divInner hb (by omega) hrl2 (by omega) (by simp [upd_at, h1]) rfl rfl ?_
   intro ts2 clk2 q0 q1 q6 q8 q7 q9
   simp only [upd_at, Nat.reduceBEq, cond_true, cond_false, h0, h1, h6, h8] at q0 q1 q6 q8
   have hqd9 : (10 * R + (A[i] - 48)) / b ≤ 9 := by
     rw [Nat.div_le_iff_le_mul_add_pred hb]; omega
   have hbl : (bytes qs).length = i := by rw [bytes_len, hql]
   have hstore : ∀ (x : Nat), storeV (D ++ [.blk gr (bytes qs ++ List.replicate (A.length - i) (.int .u8 0)) true false 0]) 1 (.int .u8 (x : Int)) (.ptr (B + 0) gr i 0) = some (.undef, D ++ [.blk gr (bytes (qs ++ [x]) ++ List.replicate (A.length - (i + 1)) (.int .u8 0)) true false 0]) := fun x => by
     have h := row_store (K := .u8) (n := x) (K' := .u8) (m := 0) (D := D) (B := B) (g := gr) (i := i) (es := bytes qs ++ List.replicate (A.length - i) (AV.int .u8 0)) (L := [AObj.blk gr (bytes qs ++ List.replicate (A.length - i) (AV.int .u8 0)) true false 0]) (k := 0) (w := false) hB rfl (rep_get2 hbl hlt)
     rw [rep_set2 hbl hlt, bytes_snoc] at h
     exact h
   have hidx : idxAV (D ++ [.blk gr (bytes qs ++ List.replicate (A.length - i) (.int .u8 0)) true false 0]) 1 (.ob (B + 0) gr 0 A.length) (.int .i64 (i : Int)) = some (.ptr (B + 0) gr i 0, D ++ [.blk gr (bytes qs ++ List.replicate (A.length - i) (.int .u8 0)) true false 0]) :=
     row_idx (L := [.blk gr (bytes qs ++ List.replicate (A.length - i) (.int .u8 0)) true false 0]) (k := 0) hB rfl (rep_get2 hbl hlt) rfl (by omega)
   simp only [go_sem, Nat.reduceBEq, q0, q1, q6, q8, q7, q9, hidx, hstore, ei]
   have hWA : worth (A.take i) = b * worth qs + R := by rw [hqw, ← hR]; exact (Nat.div_add_mod _ _).symm
   have e10 : 10 * worth (A.take i) + (A[i] - 48) = (10 * R + (A[i] - 48)) + b * (10 * worth qs) := by
     rw [hWA, Nat.mul_add, ← Nat.mul_assoc, Nat.mul_comm 10 b, Nat.mul_assoc]
     omega
   refine hn (A.length - (i + 1)) _ (by omega) ⟨i + 1, qs ++ [48 + (10 * R + (A[i] - 48)) / b], gr, hlt, rfl, by simp [hql], ?_, ?_, by simp [upd_at, q0], by simp [upd_at, q1], by simp [upd_at, q6], ?_, by simp [upd_at], rfl⟩
   · intro c hc'
     rw [List.mem_append, List.mem_singleton] at hc'
     rcases hc' with h | rfl
     · exact hqd c h
     · exact ⟨Nat.le_add_right _ _, Nat.add_le_add_left hqd9 48⟩
   · rw [worth_snoc, worth_take hlt, e10, Nat.add_mul_div_left _ _ hb, Nat.add_sub_cancel_left, Nat.add_comm]
   · rw [worth_take hlt, e10, Nat.add_mul_mod_self_left]
     simp [upd_at, q7]
 · have hiA : i = A.length := by omega
   have e1 : decide ((i : Int) < (A.length : Int)) = false := by rw [decide_eq_false_iff_not]; omega
   rw [hiA, List.take_length, hwa] at hqw h7
   have hqne : qs ≠ [] := fun h => hna (List.length_eq_zero_iff.1 (by rw [← hiA, ← hql, h]; rfl))
   have hof : ofBV (D ++ [.blk gr (bytes qs ++ List.replicate (A.length - i) (.int .u8 0)) true false 0]) (.ob (B + 0) gr 0 A.length) = some (.str qs, D ++ [.blk gr (bytes qs ++ List.replicate (A.length - i) (.int .u8 0)) true false 0]) := by
     have hs := row_src (B := B) (D := D) (L := [.blk gr (bytes qs ++ List.replicate (A.length - i) (.int .u8 0)) true false 0]) (k := 0) (g := gr) (len := A.length) hB rfl (by simp [bytes, hql]; omega)
     simp only [ofBV, hs, Option.bind_some]
     rw [show A.length - i = 0 by omega, List.replicate_zero, List.append_nil, bytesOf_bytes fun c hc => by have := hqd c hc; omega]
     rfl
   simp only [go_sem, Nat.reduceBEq, h0, h1, h6, h7, h8, c235_1, e1]
   refine he _ _ ?_
   simp only [go_sem, Nat.reduceBEq, h0, h1, h6, h7, h8, hof]
   rw [CK_pure (pure148 ⟨hqne, hqd⟩), hqw]
   simp only [go_sem, Nat.reduceBEq, h7]
   rw [RV_some rfl rfl]
   exact hT _
theorem dec_len_le {a b : Nat} (h : a ≤ b) : (dec a).length ≤ (dec b).length := Classical.byContradiction fun hc => by
 have := dec_len_lt (a := b) (b := a) (by omega)
 omega
theorem dec_is_zero {n : Nat} : decide (dec n = [48]) = decide (n = 0) := by rw [decide_eq_decide]; exact dec_eq_zero
theorem dec_is_one {n : Nat} : decide (dec n = [49]) = decide (n = 1) := by rw [decide_eq_decide]; exact dec_eq_one
theorem pure234 {a b : Nat} (hlen : (dec a).length ≤ 150) (hlenb : (dec b).length ≤ 150) : Pure Gam 234 [.str (dec a), .str (dec b)] (.str (dec (Nat.gcd a b))) := by
 refine Pure.of rfl fn234 rfl rfl rfl rfl rfl fun D B clk T hB hT => ?_
 simp only [go_sem, Nat.reduceBEq, af234]
 refine K_loop (fun m q => ∃ x y : Nat, m = y ∧ Nat.gcd x y = Nat.gcd a b ∧ (dec x).length ≤ 150 ∧ (dec y).length ≤ 150 ∧ q.ts 0 = .str (dec x) ∧ q.ts 1 = .str (dec y) ∧ q.h = D ++ []) b ⟨a, b, rfl, rfl, hlen, hlenb, rfl, rfl, rfl⟩ ?_
 rintro m ⟨ts, h, clk⟩ P ⟨x, y, rfl, hg, hlx, hly, h0, h1, rfl⟩ hn he hr
 dsimp only at h0 h1
 by_cases hy : m = 0
 · subst hy
   have e1 : decide (dec 0 = [48]) = true := by rw [dec_is_zero]; rfl
   simp only [go_sem, Nat.reduceBEq, h0, h1, c234_0, e1, Bool.not_true]
   refine he _ _ ?_
   simp only [go_sem, Nat.reduceBEq, h0]
   rw [RV_str]
   rw [Nat.gcd_zero_right] at hg
   rw [hg]
   exact hT _
 · have e1 : decide (dec m = [48]) = false := by rw [dec_is_zero]; simp [hy]
   have hpos : 0 < m := Nat.pos_of_ne_zero hy
   simp only [go_sem, Nat.reduceBEq, h0, h1, c234_0, e1, Bool.not_false]
   rw [CK_pure (pure235 hpos hlx hly)]
   simp only [go_sem, Nat.reduceBEq, h0, h1]
   have hlt := Nat.mod_lt x hpos
   refine hn (x % m) _ hlt ⟨m, x % m, rfl, ?_, hly, Nat.le_trans (dec_len_le (Nat.le_of_lt hlt)) hly, by simp [upd_at, h1], rfl, rfl⟩
   rw [← hg, Nat.gcd_comm x m, Nat.gcd_rec m x, Nat.gcd_comm]
def eRat (neg : Bool) (n d : Nat) : AV := .agg [.bool neg, .str (dec n), .str (dec d)]
def ratText (neg : Bool) (n d : Nat) : List Nat := (if neg then [45] else []) ++ dec n ++ (if d = 1 then [] else 47 :: dec d)
theorem pure216 {neg : Bool} {a b : Nat} (hb : 0 < b) (hlen : (dec a).length ≤ 150) (hlenb : (dec b).length ≤ 150) : Pure Gam 216 [.bool neg, .str (dec a), .str (dec b)] (eRat (neg && !decide (a / Nat.gcd a b = 0)) (a / Nat.gcd a b) (b / Nat.gcd a b)) := by
 refine Pure.of rfl fn216 rfl rfl rfl rfl rfl fun D B clk T hB hT => ?_
 have hg : 0 < Nat.gcd a b := Nat.gcd_pos_of_pos_right _ hb
 have hgl : (dec (Nat.gcd a b)).length ≤ 150 := Nat.le_trans (dec_len_le (Nat.le_of_dvd hb (Nat.gcd_dvd_right a b))) hlenb
 simp only [go_sem, Nat.reduceBEq, Nat.reduceAdd, Nat.reduceLeDiff, Nat.reduceSub, reduceCtorEq, ↓reduceIte, af216, hB]
 rw [CK_pure (pure234 hlen hlenb)]
 simp only [go_sem, Nat.reduceBEq, Nat.reduceAdd, Nat.reduceLeDiff, Nat.reduceSub, reduceCtorEq, ↓reduceIte, ]
 rw [CK_pure (pure235 hg hlen hgl)]
 simp only [go_sem, Nat.reduceBEq, Nat.reduceAdd, Nat.reduceLeDiff, Nat.reduceSub, reduceCtorEq, ↓reduceIte, ]
 rw [CK_pure (pure235 hg hlenb hgl)]
 cases neg
 · simp only [go_sem, Nat.reduceBEq, Nat.reduceAdd, Nat.reduceLeDiff, Nat.reduceSub, reduceCtorEq, ↓reduceIte, hB]
   rw [RV_one rfl rfl]
   exact hT _
 · simp only [go_sem, Nat.reduceBEq, Nat.reduceAdd, Nat.reduceLeDiff, Nat.reduceSub, reduceCtorEq, ↓reduceIte, hB, dec_is_zero]
   rw [RV_one rfl rfl]
   exact hT _
theorem pure217 {neg : Bool} {n d : Nat} (hlen : (dec n).length ≤ 150) (hlend : (dec d).length ≤ 150) : Pure Gam 217 [eRat neg n d] (.str (ratText neg n d)) := by
 refine Pure.of rfl fn217 rfl rfl rfl rfl rfl fun D B clk T hB hT => ?_
 have e1 : ∀ h, binV h .add (.one .str) (.str [45]) (.str (dec n)) = some (.str (45 :: dec n), h) := fun h => sv_add (by simp; omega)
 have e2 : ∀ h, binV h .add (.one .str) (.str [47]) (.str (dec d)) = some (.str (47 :: dec d), h) := fun h => sv_add (by simp; omega)
 have e3 : ∀ h, binV h .add (.one .str) (.str (dec n)) (.str (47 :: dec d)) = some (.str (dec n ++ 47 :: dec d), h) := fun h => sv_add (by simp; omega)
 have e4 : ∀ h, binV h .add (.one .str) (.str (45 :: dec n)) (.str (47 :: dec d)) = some (.str (45 :: dec n ++ 47 :: dec d), h) := fun h => sv_add (by simp; omega)
 unfold ratText at hT
 by_cases h1 : d = 1
 · have ed : decide (dec d = [49]) = true := by rw [dec_is_one]; simp [h1]
   rw [if_pos h1] at hT
   cases neg
   all_goals
     simp only [go_sem, Nat.reduceBEq, Nat.reduceAdd, ↓reduceIte, af217, hB, eRat, e1, e2, e3, e4, ed, Bool.not_true]
     rw [RV_str]
     have := hT
     simp only [Bool.false_eq_true, if_false, if_true, List.nil_append, List.append_nil, List.cons_append] at this
     exact this _
 · have ed : decide (dec d = [49]) = false := by rw [dec_is_one]; simp [h1]
   rw [if_neg h1] at hT
   cases neg
   all_goals
     simp only [go_sem, Nat.reduceBEq, Nat.reduceAdd, ↓reduceIte, af217, hB, eRat, e1, e2, e3, e4, ed, Bool.not_false]
     rw [RV_str]
     have := hT
     simp only [Bool.false_eq_true, if_false, if_true, List.nil_append, List.append_nil, List.cons_append] at this
     exact this _
def wval (l : List Nat) : Nat := l.foldl (fun a x => 10 * a + x) 0
theorem wval_go : ∀ (l : List Nat) (a : Nat), l.foldl (fun a x => 10 * a + x) a = a * 10 ^ l.length + wval l := by
 intro l
 induction l with
 | nil => intro a; simp [wval]
 | cons x l ih =>
   intro a
   have h1 : wval (x :: l) = x * 10 ^ l.length + wval l := by
     show List.foldl _ _ l = _
     rw [ih]
     simp
   simp only [List.foldl_cons, List.length_cons]
   rw [ih, h1, Nat.pow_succ, Nat.add_mul]
   rw [show 10 * a * 10 ^ l.length = a * (10 ^ l.length * 10) by rw [Nat.mul_comm 10 a, Nat.mul_assoc, Nat.mul_comm 10]]
   omega
theorem wval_cons {x : Nat} {l : List Nat} : wval (x :: l) = x * 10 ^ l.length + wval l := by
 show List.foldl _ _ l = _
 rw [wval_go]
 simp
theorem wval_zero {n : Nat} : wval (List.replicate n 0) = 0 := by
 induction n with
 | zero => rfl
 | succ n ih => rw [List.replicate_succ, wval_cons, ih]; simp
theorem wval_add : ∀ {l : List Nat} {k y : Nat} (h : k < l.length), wval (l.set k (l[k] + y)) = wval l + y * 10 ^ (l.length - 1 - k)
 | x :: l, 0, y, _ => by
   simp only [List.set_cons_zero, List.getElem_cons_zero, wval_cons, List.length_cons, Nat.add_sub_cancel, Nat.sub_zero, Nat.add_mul]
   omega
 | x :: l, k + 1, y, h => by
   have h' : k < l.length := by simpa using h
   have ih := wval_add (y := y) h'
   simp only [List.set_cons_succ, List.getElem_cons_succ, wval_cons, List.length_set, List.length_cons, ih]
   rw [show l.length + 1 - 1 - (k + 1) = l.length - 1 - k by omega]
   omega
theorem wval_drop {l : List Nat} {k : Nat} (h : k < l.length) : wval (l.drop k) = l[k] * 10 ^ (l.length - 1 - k) + wval (l.drop (k + 1)) := by
 rw [List.drop_eq_getElem_cons h, wval_cons, List.length_drop]
 rw [show l.length - (k + 1) = l.length - 1 - k by omega]
end Go.Proofs.YtbeooboebfbchaaGreatDoor.Am
