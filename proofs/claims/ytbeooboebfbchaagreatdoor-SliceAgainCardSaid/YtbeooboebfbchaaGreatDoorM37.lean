/- Walking: magnitudes are multiplied. Walking: magnitudes are multiplied (2). Walking: magnitudes are multiplied (3). Walking: canonical integers are read. Walking: integers are multiplied. Walking: integers are divided. Walking: numbers are generated. Walking: numbers are generated (2). Walking: the program's numbers. -/
import Derived.Test.YtbeooboebfbchaaGreatDoorM36
set_option linter.unusedVariables false
set_option linter.unusedSimpArgs false
namespace Go.Proofs.YtbeooboebfbchaaGreatDoor.Am
open Go
set_option maxRecDepth 100000
theorem nats_set {l : List Nat} {k x : Nat} : (l.map nat).set k (nat x) = (l.set k x).map nat := List.map_set.symm
theorem nats_get {l : List Nat} {k : Nat} (h : k < l.length) : (l.map nat)[k]? = some (.int .i64 (l[k] : Int)) := by simp [h, nat]
theorem mulCarry {B clk n : Nat} {D : List AObj} {out : List Nat} {g1 g2 : Nat} {ts : Tmps} {ks : List Kf} {Q : Post} (hB : D.length = B) (hl : out.length = n) (hn1 : 1 ≤ n) (hn2 : n ≤ 1000) (hb : ∀ x ∈ out, x ≤ 10 ^ 9) (htot : wval out < 10 ^ n)
   (h5 : ts 5 = .ob (B + 0) g1 0 n) (h8 : ts 8 = .ob (B + 1) g2 0 n) (h9 : ts 9 = .int .i64 0) (h10 : ts 10 = .int .i64 ((n : Int) - 1))
   (hQ : ∀ (suf : List Nat) (ts' : Tmps) (clk' : Nat), suf.length = n → Digits suf → worth suf = wval out → ts' 8 = .ob (B + 1) g2 0 n → K Gam B (.exit 4) ks ⟨ts', D ++ [.blk g1 (out.map nat) true false 0, .blk g2 (bytes suf) true false 0], clk'⟩ Q) :
   K Gam B (.loop c236_0) ks ⟨ts, D ++ [.blk g1 (out.map nat) true false 0, .blk g2 (List.replicate n (.int .u8 0)) true false 0], clk⟩ Q := by
 refine K_loop (fun m q => ∃ (i c : Nat) (suf : List Nat), i ≤ n ∧ m = n - i ∧ suf.length = i ∧ (∀ c ∈ suf, 48 ≤ c ∧ c ≤ 57) ∧ c ≤ 10 ^ 9 ∧ worth suf + c * 10 ^ i = wval (out.drop (n - i)) ∧ q.ts 5 = .ob (B + 0) g1 0 n ∧ q.ts 8 = .ob (B + 1) g2 0 n ∧ q.ts 9 = .int .i64 (c : Int) ∧ q.ts 10 = .int .i64 ((n : Int) - i - 1) ∧
   q.h = D ++ [.blk g1 (out.map nat) true false 0, .blk g2 (List.replicate (n - i) (.int .u8 0) ++ bytes suf) true false 0]) n ?_ ?_
 · refine ⟨0, 0, [], by omega, rfl, rfl, by simp, by omega, ?_, h5, h8, h9, by simpa using h10, by simp [bytes]⟩
   rw [Nat.sub_zero, ← hl, List.drop_length]
   simp [worth, wval]
 rintro m ⟨ts, h, clk⟩ P ⟨i, c, suf, hi, rfl, hsl, hsd, hc, hw, h5, h8, h9, h10, rfl⟩ hn he hr
 dsimp only at h5 h8 h9 h10
 by_cases hlt : i < n
 · have hk : n - 1 - i < out.length := by omega
   have e0 : (n : Int) - i - 1 = ((n - 1 - i : Nat) : Int) := by omega
   rw [e0] at h10
   have e1 : decide ((0 : Int) ≤ ((n - 1 - i : Nat) : Int)) = true := by rw [decide_eq_true_iff]; omega
   have hx := hb _ (List.getElem_mem hk)
   have hdr := wval_drop hk
   generalize hxx : out[n - 1 - i] = x at hx hdr
   have hidx1 : ∀ es, idxAV (D ++ [.blk g1 (out.map nat) true false 0, .blk g2 es true false 0]) 1 (.ob (B + 0) g1 0 n) (.int .i64 ((n - 1 - i : Nat) : Int)) = some (.ptr (B + 0) g1 (n - 1 - i) 0, D ++ [.blk g1 (out.map nat) true false 0, .blk g2 es true false 0]) := fun es =>
     row_idx (L := [.blk g1 (out.map nat) true false 0, .blk g2 es true false 0]) (k := 0) hB rfl (nats_get hk) rfl (by omega)
   have hgetn : (out.map nat)[n - 1 - i]? = some (.int .i64 (x : Int)) := by rw [nats_get hk, hxx]
   have hidx2 : idxAV (D ++ [.blk g1 (out.map nat) true false 0, .blk g2 (List.replicate (n - i) (.int .u8 0) ++ bytes suf) true false 0]) 1 (.ob (B + 1) g2 0 n) (.int .i64 ((n - 1 - i : Nat) : Int)) = some (.ptr (B + 1) g2 (n - 1 - i) 0, D ++ [.blk g1 (out.map nat) true false 0, .blk g2 (List.replicate (n - i) (.int .u8 0) ++ bytes suf) true false 0]) :=
     row_idx (L := [.blk g1 (out.map nat) true false 0, .blk g2 (List.replicate (n - i) (.int .u8 0) ++ bytes suf) true false 0]) (k := 1) hB rfl (rep_get hlt) rfl (by omega)
   have hstore : ∀ (y : Nat), storeV (D ++ [.blk g1 (out.map nat) true false 0, .blk g2 (List.replicate (n - i) (.int .u8 0) ++ bytes suf) true false 0]) 1 (.int .u8 (y : Int)) (.ptr (B + 1) g2 (n - 1 - i) 0) = some (.undef, D ++ [.blk g1 (out.map nat) true false 0, .blk g2 (List.replicate (n - (i + 1)) (.int .u8 0) ++ bytes (y :: suf)) true false 0]) := fun y => by
     have h := row_store (K := .u8) (n := y) (K' := .u8) (m := 0) (D := D) (B := B) (g := g2) (i := n - 1 - i) (es := List.replicate (n - i) (AV.int .u8 0) ++ bytes suf) (L := [AObj.blk g1 (out.map nat) true false 0, AObj.blk g2 (List.replicate (n - i) (AV.int .u8 0) ++ bytes suf) true false 0]) (k := 1) (w := false) hB rfl (rep_get hlt)
     rw [rep_set hlt] at h
     exact h
   have e2 : IntKind.i64.wrap ((x : Int) + (c : Int)) = ((x + c : Nat) : Int) := by rw [wrap_i64 (by omega) (by omega)]; omega
   have e3 : (((x + c : Nat) : Int)).tmod 10 = (((x + c) % 10 : Nat) : Int) := by
     rw [Int.tmod_eq_emod_of_nonneg (by omega)]; omega
   have e4 : IntKind.i64.wrap ((((x + c : Nat) : Int)).tdiv 10) = (((x + c) / 10 : Nat) : Int) := by
     rw [IntWalk.i64_quo _ _ ⟨by omega, by omega, by omega⟩]; omega
   have e5 : IntKind.u8.wrap (IntKind.i64.wrap (48 + (((x + c) % 10 : Nat) : Int))) = ((48 + (x + c) % 10 : Nat) : Int) := by rw [wrap_i64 (by omega) (by omega), IntWalk.u8_in _ (by omega)]; omega
   have e6 : IntKind.i64.wrap (((n - 1 - i : Nat) : Int) - 1) = (n : Int) - ((i + 1 : Nat) : Int) - 1 := by rw [wrap_i64 (by omega) (by omega)]; omega
   simp only [go_sem, Nat.reduceBEq, h5, h8, h9, h10, hB, c236_0, e1, hidx1, hgetn, e2, bv_rem (b := 10) (by decide), bv_quo (b := 10) (by decide), e3, e4, e5, e6, hidx2, hstore]
   refine hn (n - (i + 1)) _ (by omega) ⟨i + 1, (x + c) / 10, (48 + (x + c) % 10) :: suf, hlt, rfl, by simp [hsl], ?_, by omega, ?_, by simp [upd_at, h5], by simp [upd_at, h8], by simp [upd_at], by simp [upd_at], rfl⟩
   · intro c' hc'
     rw [List.mem_cons] at hc'
     rcases hc' with rfl | hc'
     · omega
     · exact hsd c' hc'
   · rw [show n - (i + 1) = n - 1 - i by omega, hdr, show n - 1 - i + 1 = n - i by omega, ← hw, worth_cons, hsl, hl, show n - 1 - (n - 1 - i) = i by omega, Nat.add_sub_cancel_left, Nat.pow_succ]
     have hdm := Nat.div_add_mod (x + c) 10
     have := congrArg (· * 10 ^ i) hdm
     simp only [Nat.add_mul] at this
     rw [Nat.mul_comm (10 ^ i) 10, ← Nat.mul_assoc, Nat.mul_comm _ 10]
     omega
 · have hin : i = n := by omega
   have e1 : decide ((0 : Int) ≤ (n : Int) - i - 1) = false := by rw [decide_eq_false_iff_not]; omega
   rw [hin, Nat.sub_self, List.drop_zero] at hw
   have hc0 : c = 0 := Classical.byContradiction fun h => by
     have : 1 * 10 ^ n ≤ c * 10 ^ n := Nat.mul_le_mul_right _ (by omega)
     omega
   subst hc0
   simp only [go_sem, Nat.reduceBEq, h5, h8, h9, h10, c236_0, e1]
   refine he _ _ ?_
   have hh : List.replicate (n - i) (AV.int .u8 0) ++ bytes suf = bytes suf := by rw [show n - i = 0 by omega]; rfl
   rw [hh]
   exact hQ suf _ _ (by omega) ⟨fun h => by rw [h] at hsl; simp at hsl; omega, hsd⟩ (by omega) (by simp [upd_at, h8])
theorem take_step {C : List Nat} {j : Nat} (hj : j < C.length) : worth (C.take (j + 1)) * 10 ^ (C.length - (j + 1)) = worth (C.take j) * 10 ^ (C.length - j) + (C[j] - 48) * 10 ^ (C.length - (j + 1)) := by
 rw [worth_take hj, show C.length - j = (C.length - (j + 1)) + 1 by omega, Nat.pow_succ, Nat.add_mul]
 rw [Nat.mul_comm 10, Nat.mul_assoc, Nat.mul_comm 10]
theorem mulInner {B clk i n : Nat} {D : List AObj} {out A C : List Nat} {g1 : Nat} {o2 : AObj} {ts : Tmps} {ks : List Kf} {Q : Post} (hB : D.length = B) (hl : out.length = n) (hn : n = A.length + C.length) (hA : A.length ≤ 100) (hC : C.length ≤ 100) (hi : i < A.length) (hda : ∀ c ∈ A, 48 ≤ c ∧ c ≤ 57) (hdc : ∀ c ∈ C, 48 ≤ c ∧ c ≤ 57) (hb : ∀ x ∈ out, x ≤ 100 * (100 * i))
   (h0 : ts 0 = .str A) (h1 : ts 1 = .str C) (h5 : ts 5 = .ob (B + 0) g1 0 n) (h6 : ts 6 = .int .i64 (i : Int)) (h7 : ts 7 = .int .i64 0)
   (hQ : ∀ (out' : List Nat) (ts' : Tmps) (clk' : Nat), out'.length = n → (∀ x ∈ out', x ≤ 100 * (100 * (i + 1))) → wval out' = wval out + (A[i] - 48) * 10 ^ (A.length - (i + 1)) * worth C → ts' 0 = .str A → ts' 1 = .str C → ts' 5 = .ob (B + 0) g1 0 n → ts' 6 = .int .i64 (i : Int) → K Gam B (.exit 2) ks ⟨ts', D ++ [.blk g1 (out'.map nat) true false 0, o2], clk'⟩ Q) :
   K Gam B (.loop c236_1) ks ⟨ts, D ++ [.blk g1 (out.map nat) true false 0, o2], clk⟩ Q := by
 refine K_loop (fun m q => ∃ (j : Nat) (out' : List Nat), j ≤ C.length ∧ m = C.length - j ∧ out'.length = n ∧ (∀ x ∈ out', x ≤ 100 * (100 * i + j)) ∧ wval out' = wval out + (A[i] - 48) * 10 ^ (A.length - (i + 1)) * (worth (C.take j) * 10 ^ (C.length - j)) ∧ q.ts 0 = .str A ∧ q.ts 1 = .str C ∧ q.ts 5 = .ob (B + 0) g1 0 n ∧ q.ts 6 = .int .i64 (i : Int) ∧ q.ts 7 = .int .i64 (j : Int) ∧ q.h = D ++ [.blk g1 (out'.map nat) true false 0, o2]) C.length ⟨0, out, by omega, rfl, hl, by simpa using hb, by simp [worth], h0, h1, h5, h6, h7, rfl⟩ ?_
 clear h0 h1 h5 h6 h7
 rintro m ⟨ts, h, clk⟩ P ⟨j, out', hj, rfl, hl', hb', hw, h0, h1, h5, h6, h7, rfl⟩ hnx he hr
 dsimp only at h0 h1 h5 h6 h7
 by_cases hlt : j < C.length
 · have e1 : decide ((j : Int) < (C.length : Int)) = true := by rw [decide_eq_true_iff]; omega
   have ek : IntKind.i64.wrap (IntKind.i64.wrap ((i : Int) + (j : Int)) + 1) = ((i + j + 1 : Nat) : Int) := by rw [wrap_i64 (n := (i : Int) + (j : Int)) (by omega) (by omega), wrap_i64 (by omega) (by omega)]; omega
   have hk : i + j + 1 < out'.length := by omega
   have hca := hda _ (List.getElem_mem hi)
   have hcc := hdc _ (List.getElem_mem hlt)
   have hx := hb' _ (List.getElem_mem hk)
   have ea := u8_digit hca
   have ec := u8_digit hcc
   have ea2 : IntKind.i64.wrap ((A[i] - 48 : Nat) : Int) = ((A[i] - 48 : Nat) : Int) := wrap_i64 (by omega) (by omega)
   have ec2 : IntKind.i64.wrap ((C[j] - 48 : Nat) : Int) = ((C[j] - 48 : Nat) : Int) := wrap_i64 (by omega) (by omega)
   have hprod : (A[i] - 48) * (C[j] - 48) ≤ 81 := Nat.mul_le_mul (by omega : A[i] - 48 ≤ 9) (by omega : C[j] - 48 ≤ 9)
   have em : IntKind.i64.wrap (((A[i] - 48 : Nat) : Int) * ((C[j] - 48 : Nat) : Int)) = (((A[i] - 48) * (C[j] - 48) : Nat) : Int) := by
     rw [← Int.natCast_mul]
     exact wrap_i64 (by omega) (by omega)
   have es : IntKind.i64.wrap ((out'[i + j + 1] : Int) + (((A[i] - 48) * (C[j] - 48) : Nat) : Int)) = ((out'[i + j + 1] + (A[i] - 48) * (C[j] - 48) : Nat) : Int) := by rw [wrap_i64 (by omega) (by omega)]; omega
   have ej : IntKind.i64.wrap ((j : Int) + 1) = ((j + 1 : Nat) : Int) := wrap_i64 (by omega) (by omega)
   have hidx : idxAV (D ++ [.blk g1 (out'.map nat) true false 0, o2]) 1 (.ob (B + 0) g1 0 n) (.int .i64 ((i + j + 1 : Nat) : Int)) = some (.ptr (B + 0) g1 (i + j + 1) 0, D ++ [.blk g1 (out'.map nat) true false 0, o2]) :=
     row_idx (L := [.blk g1 (out'.map nat) true false 0, o2]) (k := 0) hB rfl (nats_get hk) rfl (by omega)
   have hstore : ∀ y : Nat, storeV (D ++ [.blk g1 (out'.map nat) true false 0, o2]) 1 (.int .i64 (y : Int)) (.ptr (B + 0) g1 (i + j + 1) 0) = some (.undef, D ++ [.blk g1 ((out'.set (i + j + 1) y).map nat) true false 0, o2]) := fun y => by
     have h := row_store (K := .i64) (n := y) (K' := .i64) (m := (out'[i + j + 1] : Int)) (D := D) (B := B) (g := g1) (i := i + j + 1) (es := out'.map nat) (L := [AObj.blk g1 (out'.map nat) true false 0, o2]) (k := 0) (w := false) hB rfl (nats_get hk)
     rw [show (AV.int .i64 (y : Int)) = nat y from rfl, nats_set] at h
     exact h
   simp only [go_sem, Nat.reduceBEq, h0, h1, h5, h6, h7, hB, c236_1, e1, ek, hidx, nats_get hk, idxS_at hi, idxS_at hlt, ea, ec, ea2, ec2, em, es, hstore, ej]
   refine hnx (C.length - (j + 1)) _ (by omega) ⟨j + 1, out'.set (i + j + 1) (out'[i + j + 1] + (A[i] - 48) * (C[j] - 48)), hlt, rfl, by simp [hl'], ?_, ?_, h0, h1, h5, h6, rfl, rfl⟩
   · intro x hx'
     rcases List.mem_or_eq_of_mem_set hx' with h | rfl
     · have := hb' x h
       omega
     · omega
   · rw [wval_add hk, hw, take_step hlt, Nat.mul_add, hl', show n - 1 - (i + j + 1) = (A.length - (i + 1)) + (C.length - (j + 1)) by omega, Nat.pow_add]
     have : (A[i] - 48) * (C[j] - 48) * (10 ^ (A.length - (i + 1)) * 10 ^ (C.length - (j + 1))) = (A[i] - 48) * 10 ^ (A.length - (i + 1)) * ((C[j] - 48) * 10 ^ (C.length - (j + 1))) := by
       simp only [Nat.mul_assoc, Nat.mul_left_comm]
     omega
 · have hjC : j = C.length := by omega
   have e1 : decide ((j : Int) < (C.length : Int)) = false := by rw [decide_eq_false_iff_not]; omega
   simp only [go_sem, Nat.reduceBEq, h0, h1, h5, h6, h7, c236_1, e1]
   refine he _ _ ?_
   refine hQ out' _ _ hl' (fun x hx => by have := hb' x hx; omega) ?_ (by simp [upd_at, h0]) (by simp [upd_at, h1]) (by simp [upd_at, h5]) (by simp [upd_at, h6])
   rw [hw, hjC, List.take_length, Nat.sub_self, Nat.pow_zero, Nat.mul_one]
theorem reps_nat {n : Nat} : List.replicate n (AV.int .i64 0) = (List.replicate n 0).map nat := by simp [nat]
theorem pure236 {a b : Nat} (hlen : (dec a).length ≤ 100) (hlenb : (dec b).length ≤ 100) : Pure Gam 236 [.str (dec a), .str (dec b)] (.str (dec (a * b))) := by
 refine Pure.of rfl fn236 rfl rfl rfl rfl rfl fun D B clk T hB hT => ?_
 have hda := dec_digits a
 have hdc := dec_digits b
 have hna := List.length_pos_iff.2 (dec_ne a)
 have hwa := worth_dec a
 have hwb := worth_dec b
 generalize hA : dec a = A at *
 generalize hC : dec b = C at *
 have en : IntKind.i64.wrap ((A.length : Int) + (C.length : Int)) = ((A.length + C.length : Nat) : Int) := by rw [wrap_i64 (by omega) (by omega)]; omega
 simp only [go_sem, Nat.reduceBEq, af236, hB, en, msV_ok (z := .int .i64 0) (n := A.length + C.length) (b := 8) rfl (by omega), reps_nat]
 generalize hn : A.length + C.length = n
 refine K_loop (fun m q => ∃ (i : Nat) (out : List Nat) (g1 : Nat) (o2 : AObj), i ≤ A.length ∧ m = A.length - i ∧ out.length = n ∧ (∀ x ∈ out, x ≤ 100 * (100 * i)) ∧ wval out = worth (A.take i) * 10 ^ (A.length - i) * b ∧ q.ts 0 = .str A ∧ q.ts 1 = .str C ∧ q.ts 5 = .ob (B + 0) g1 0 n ∧ q.ts 6 = .int .i64 (i : Int) ∧ q.h = D ++ [.blk g1 (out.map nat) true false 0, o2]) A.length ?_ ?_
 · refine ⟨0, List.replicate n 0, _, _, by omega, rfl, by simp, by simp, by simp [wval_zero, worth], rfl, rfl, rfl, rfl, rfl⟩
 rintro m ⟨ts, h, clk⟩ P ⟨i, out, g1, o2, hi, rfl, hl, hb, hw, h0, h1, h5, h6, rfl⟩ hnx he hr
 dsimp only at h0 h1 h5 h6
 by_cases hlt : i < A.length
 · have e1 : decide ((i : Int) < (A.length : Int)) = true := by rw [decide_eq_true_iff]; omega
   have ei : IntKind.i64.wrap ((i : Int) + 1) = ((i + 1 : Nat) : Int) := wrap_i64 (by omega) (by omega)
   simp only [go_sem, Nat.reduceBEq, h0, h1, h5, h6, c236_2, e1]
   refine mulInner (i := i) (A := A) (C := C) hB hl hn.symm hlen hlenb hlt hda hdc hb (by simp [upd_at, h0]) (by simp [upd_at, h1]) (by simp [upd_at, h5]) (by simp [upd_at, h6]) rfl ?_
   intro out' ts2 clk2 hl' hb' hw' q0 q1 q5 q6
   simp only [go_sem, Nat.reduceBEq, q0, q1, q5, q6, ei]
   refine hnx (A.length - (i + 1)) _ (by omega) ⟨i + 1, out', g1, o2, hlt, rfl, hl', hb', ?_, q0, q1, q5, rfl, rfl⟩
   rw [hw', hw, take_step hlt, hwb, Nat.add_mul]
 · have hiA : i = A.length := by omega
   have e1 : decide ((i : Int) < (A.length : Int)) = false := by rw [decide_eq_false_iff_not]; omega
   rw [hiA, List.take_length, hwa, Nat.sub_self, Nat.pow_zero, Nat.mul_one] at hw
   have hlt10 : a * b < 10 ^ n := by
     have h1 := worth_lt hda
     have h2 := worth_lt hdc
     rw [hwa] at h1
     rw [hwb] at h2
     rw [← hn, Nat.pow_add]
     rcases Nat.eq_zero_or_pos b with rfl | hbp
     · simp; exact Nat.mul_pos (Nat.pos_of_ne_zero (by simp)) (Nat.pos_of_ne_zero (by simp))
     · exact Nat.lt_of_lt_of_le (Nat.mul_lt_mul_of_pos_right h1 hbp) (Nat.mul_le_mul_left _ (Nat.le_of_lt h2))
   have em : IntKind.i64.wrap ((n : Int) - 1) = (n : Int) - 1 := wrap_i64 (by omega) (by omega)
   simp only [go_sem, Nat.reduceBEq, h0, h1, h5, h6, c236_2, e1]
   refine he _ _ ?_
   simp only [go_sem, Nat.reduceBEq, h0, h1, h5, h6, hB, msV_ok (z := .int .u8 0) (n := n) (b := 1) rfl (by omega), em]
   refine mulCarry (out := out) hB hl (by omega) (by omega) (fun x hx => by have := hb x hx; omega) (by rw [hw]; exact hlt10) (by simp [upd_at, h5]) rfl rfl rfl ?_
   intro suf ts2 clk2 hsl hsd hsw q8
   have hof : ∀ g2, ofBV (D ++ [.blk g1 (out.map nat) true false 0, .blk g2 (bytes suf) true false 0]) (.ob (B + 1) g2 0 n) = some (.str suf, D ++ [.blk g1 (out.map nat) true false 0, .blk g2 (bytes suf) true false 0]) := fun g2 => by
     have hs := row_src (B := B) (D := D) (L := [.blk g1 (out.map nat) true false 0, .blk g2 (bytes suf) true false 0]) (k := 1) (g := g2) (len := n) hB rfl (by rw [bytes_len, hsl])
     simp only [ofBV, hs, Option.bind_some]
     rw [bytesOf_bytes fun c hc => by have := hsd.2 c hc; omega]
     rfl
   simp only [go_sem, Nat.reduceBEq, q8, hof]
   rw [CK_pure (pure148 hsd), hsw, hw]
   simp only [go_sem, Nat.reduceBEq, ]
   rw [RV_str]
   exact hT _
theorem parseLoop {B clk : Nat} {D L : List AObj} {s : List Nat} {g4 : Nat} {v0 : AV} {ts : Tmps} {ks : List Kf} {Q : Post} (hd : ∀ c ∈ s, 48 ≤ c ∧ c ≤ 57) (hl : s.length ≤ 1000) (h0 : ts 0 = v0) (h4 : ts 4 = .ptr (B + 1) g4 0 0) (h5 : ts 5 = .str s) (h6 : ts 6 = .int .i64 0) {g2 : Nat} (h2 : ts 2 = .ptr (B + 0) g2 0 0)
   (hQ : ∀ (ts' : Tmps) (clk' : Nat), ts' 0 = v0 → ts' 2 = .ptr (B + 0) g2 0 0 → ts' 4 = .ptr (B + 1) g4 0 0 → ts' 5 = .str s → K Gam B (.exit 0) ks ⟨ts', D ++ L, clk'⟩ Q) : K Gam B (.loop c179_0) ks ⟨ts, D ++ L, clk⟩ Q := by
 refine K_loop (fun m q => ∃ j : Nat, j ≤ s.length ∧ m = s.length - j ∧ q.ts 0 = v0 ∧ q.ts 2 = .ptr (B + 0) g2 0 0 ∧ q.ts 4 = .ptr (B + 1) g4 0 0 ∧ q.ts 5 = .str s ∧ q.ts 6 = .int .i64 (j : Int) ∧ q.h = D ++ L) s.length ⟨0, by omega, rfl, h0, h2, h4, h5, h6, rfl⟩ ?_
 clear h0 h2 h4 h5 h6
 rintro m ⟨ts, h, clk⟩ P ⟨j, hj, rfl, h0, h2, h4, h5, h6, rfl⟩ hn he hr
 dsimp only at h0 h2 h4 h5 h6
 by_cases hlt : j < s.length
 · have e1 : decide ((j : Int) < (s.length : Int)) = true := by rw [decide_eq_true_iff]; omega
   have hc := hd s[j] (List.getElem_mem hlt)
   have e2 : decide ((s[j] : Int) = 47) = false := by rw [decide_eq_false_iff_not]; omega
   have e4 : IntKind.i64.wrap ((j : Int) + 1) = ((j + 1 : Nat) : Int) := wrap_i64 (by omega) (by omega)
   simp only [go_sem, Nat.reduceBEq, h0, h2, h4, h5, h6, c179_0, e1, idxS_at hlt, e2, e4]
   exact hn (s.length - (j + 1)) _ (by omega) ⟨j + 1, hlt, rfl, h0, h2, h4, h5, rfl, rfl⟩
 · have e1 : decide ((j : Int) < (s.length : Int)) = false := by rw [decide_eq_false_iff_not]; omega
   simp only [go_sem, Nat.reduceBEq, h0, h2, h4, h5, h6, c179_0, e1]
   refine he _ _ ?_
   exact hQ _ _ (by simp [upd_at, h0]) (by simp [upd_at, h2]) (by simp [upd_at, h4]) (by simp [upd_at, h5])
theorem dec_one : dec 1 = [49] := dec_lt (by omega)
theorem itext_eq (z : Int) : itext z = ratText (decide (z < 0)) z.natAbs 1 := by
 unfold itext ratText
 by_cases h : z < 0 <;> simp [h]
theorem pure179 {z : Int} (hl : (dec z.natAbs).length ≤ 150) : Pure Gam 179 [.str (itext z)] (.tup [eRat (decide (z < 0)) z.natAbs 1, .bool true]) := by
 have hdn := dec_digits z.natAbs
 have hdne := dec_ne z.natAbs
 have hdig : Digits (dec z.natAbs) := ⟨hdne, hdn⟩
 have hp1 : Pure Gam 147 [.str [49]] (.bool true) := pure147 ⟨by simp, by simp⟩ (by simp)
 have hp2 : Pure Gam 148 [.str [49]] (.str [49]) := by have := pure148 (s := [49]) ⟨by simp, by simp⟩; rwa [show worth [49] = 1 from rfl, dec_one] at this
 have hp3 : Pure Gam 148 [.str (dec z.natAbs)] (.str (dec z.natAbs)) := by have := pure148 hdig; rwa [worth_dec] at this
 have hp4 : ∀ neg : Bool, (neg = true → z.natAbs ≠ 0) → Pure Gam 216 [.bool neg, .str (dec z.natAbs), .str [49]] (eRat neg z.natAbs 1) := fun neg hneg => by
   have := pure216 (neg := neg) (a := z.natAbs) (b := 1) (by omega) hl (by rw [dec_one]; simp)
   rw [dec_one, Nat.gcd_one_right, Nat.div_one, Nat.div_one] at this
   cases neg
   · exact this
   · have h0 := hneg rfl
     simpa [h0] using this
 have hp5 : ∀ neg : Bool, Pure Gam 217 [eRat neg z.natAbs 1] (.str (ratText neg z.natAbs 1)) := fun neg => pure217 hl (by rw [dec_one]; simp)
 refine Pure.of rfl fn179 rfl rfl rfl rfl rfl fun D B clk T hB hT => ?_
 by_cases hz : z < 0
 · have he : itext z = 45 :: dec z.natAbs := by rw [itext, if_pos hz]
   have hdz : decide (z < 0) = true := by simp [hz]
   rw [he]
   simp only [go_sem, Nat.reduceBEq, Nat.reduceAdd, Nat.reduceLeDiff, Nat.reduceSub, reduceCtorEq, ↓reduceIte, af179, hB, K_draw, Bool.not_false, idxS_zero, Int.cast_ofNat_Int, slS_one, decide_true, decide_false, Int.reduceEq]
   refine ⟨by simp [drawOk, apart, disjoint, callAt, footAt, AOp.isCall, hB], ?_⟩
   refine parseLoop (v0 := .str (45 :: dec z.natAbs)) hdn (by omega) rfl rfl rfl rfl rfl ?_
   intro ts2 clk2 q0 q2 q4 q5
   have e1 : decide (([49] : List Nat) = [48]) = false := rfl
   have e2 : decide (dec z.natAbs = dec z.natAbs) = true := by simp
   have e3 : decide (ratText true z.natAbs 1 = 45 :: dec z.natAbs) = true := by simp [ratText]
   simp only [go_sem, Nat.reduceBEq, Nat.reduceAdd, Nat.reduceLeDiff, Nat.reduceSub, reduceCtorEq, ↓reduceIte, q0, q2, q4, q5, hB, K_draw, CK_pure (pure147 hdig (by omega)), CK_pure hp1, CK_pure hp2, CK_pure hp3, CK_pure (hp4 true (by omega)), CK_pure (hp5 true), e1, e2, e3, Bool.not_true, Bool.not_false, decide_true, decide_false]
   refine ⟨by simp [drawOk, apart, disjoint, callAt, footAt, AOp.isCall, hB], ?_⟩
   rw [RV_some rfl rfl]
   rw [hdz] at hT
   have := hT
   rw [eRat, dec_one] at this
   exact this _
 · have he : itext z = dec z.natAbs := by rw [itext, if_neg hz]
   have hdz : decide (z < 0) = false := by simp [hz]
   rw [he]
   obtain ⟨c, t, hct⟩ := List.exists_cons_of_ne_nil hdne
   have hc := hdn c (by rw [hct]; exact List.mem_cons_self)
   have e0 : decide (dec z.natAbs = []) = false := by simp [hdne]
   have e00 : ∀ h k, idxSV h (.str (dec z.natAbs)) (.int k 0) = some (.int .u8 (c : Int), h) := fun h k => by rw [hct]; exact idxS_zero
   have ec : decide ((c : Int) = 45) = false := by rw [decide_eq_false_iff_not]; omega
   simp only [go_sem, Nat.reduceBEq, Nat.reduceAdd, Nat.reduceLeDiff, Nat.reduceSub, reduceCtorEq, ↓reduceIte, af179, hB, K_draw, Bool.not_false, e0, e00, ec, Int.cast_ofNat_Int, decide_true, decide_false, Int.reduceEq]
   refine parseLoop (v0 := .str (dec z.natAbs)) hdn (by omega) rfl rfl rfl rfl rfl ?_
   intro ts2 clk2 q0 q2 q4 q5
   have e1 : decide (([49] : List Nat) = [48]) = false := rfl
   have e2 : decide (dec z.natAbs = dec z.natAbs) = true := by simp
   have e3 : decide (ratText false z.natAbs 1 = dec z.natAbs) = true := by simp [ratText]
   simp only [go_sem, Nat.reduceBEq, Nat.reduceAdd, Nat.reduceLeDiff, Nat.reduceSub, reduceCtorEq, ↓reduceIte, q0, q2, q4, q5, hB, K_draw, CK_pure (pure147 hdig (by omega)), CK_pure hp1, CK_pure hp2, CK_pure hp3, CK_pure (hp4 false (by simp)), CK_pure (hp5 false), e1, e2, e3, Bool.not_true, Bool.not_false, decide_true, decide_false]
   refine ⟨by simp [drawOk, apart, disjoint, callAt, footAt, AOp.isCall, hB], ?_⟩
   rw [RV_some rfl rfl]
   rw [hdz] at hT
   have := hT
   rw [eRat, dec_one] at this
   exact this _
theorem mul_text {x y : Int} : ratText ((!(decide (x < 0) == decide (y < 0))) && !decide (x.natAbs * y.natAbs = 0)) (x.natAbs * y.natAbs) 1 = itext (x * y) := by
 rw [itext_eq, Int.natAbs_mul]
 congr 1
 rw [Bool.eq_iff_iff]
 simp only [Bool.and_eq_true, Bool.not_eq_true', decide_eq_false_iff_not, decide_eq_true_iff, beq_eq_false_iff_ne, ne_eq, decide_eq_decide]
 rcases Int.lt_trichotomy x 0 with hx | hx | hx <;> rcases Int.lt_trichotomy y 0 with hy | hy | hy
 · have := Int.mul_pos_of_neg_of_neg hx hy
   simp [hx, hy]; omega
 · subst hy; simp
 · have := Int.mul_neg_of_neg_of_pos hx hy
   have h2 : ¬ y < 0 := by omega
   simp [hx, h2, this]; exact Nat.ne_of_gt (Nat.mul_pos (by omega) (by omega))
 · subst hx; simp
 · subst hx; simp
 · subst hx; simp
 · have := Int.mul_neg_of_pos_of_neg hx hy
   have h2 : ¬ x < 0 := by omega
   simp [hy, h2, this]; exact Nat.ne_of_gt (Nat.mul_pos (by omega) (by omega))
 · subst hy; simp
 · have := Int.mul_pos hx hy
   have h2 : ¬ x < 0 := by omega
   have h3 : ¬ y < 0 := by omega
   simp [h2, h3]; omega
theorem pure254 {x y : Int} (hx : (dec x.natAbs).length ≤ 60) (hy : (dec y.natAbs).length ≤ 60) (hxy : (dec (x.natAbs * y.natAbs)).length ≤ 150) : Pure Gam 254 [.str (itext x), .str (itext y)] (.str (itext (x * y))) := by
 refine Pure.of rfl fn254 rfl rfl rfl rfl rfl fun D B clk T hB hT => ?_
 have hp1 : Pure Gam 236 [.str [49], .str [49]] (.str [49]) := by
   have := pure236 (a := 1) (b := 1) (by rw [dec_one]; simp) (by rw [dec_one]; simp)
   rwa [dec_one] at this
 have hp2 : ∀ neg : Bool, Pure Gam 216 [.bool neg, .str (dec (x.natAbs * y.natAbs)), .str [49]] (eRat (neg && !decide (x.natAbs * y.natAbs = 0)) (x.natAbs * y.natAbs) 1) := fun neg => by
   have := pure216 (neg := neg) (a := x.natAbs * y.natAbs) (b := 1) (by omega) hxy (by rw [dec_one]; simp)
   rwa [dec_one, Nat.gcd_one_right, Nat.div_one, Nat.div_one] at this
 have hp3 : ∀ neg : Bool, Pure Gam 217 [eRat neg (x.natAbs * y.natAbs) 1] (.str (ratText neg (x.natAbs * y.natAbs) 1)) := fun neg => pure217 hxy (by rw [dec_one]; simp)
 simp only [go_sem, Nat.reduceBEq, Nat.reduceAdd, Nat.reduceLeDiff, Nat.reduceSub, reduceCtorEq, ↓reduceIte, af254, hB]
 rw [CK_pure (pure179 (by omega))]
 simp only [go_sem, Nat.reduceBEq, Nat.reduceAdd, Nat.reduceLeDiff, Nat.reduceSub, reduceCtorEq, ↓reduceIte, hB, eRat, dec_one]
 rw [CK_pure (pure179 (by omega))]
 simp only [go_sem, Nat.reduceBEq, Nat.reduceAdd, Nat.reduceLeDiff, Nat.reduceSub, reduceCtorEq, ↓reduceIte, hB, eRat, dec_one, Bool.not_true, Bool.not_false, K_draw, CK_pure (pure236 (a := x.natAbs) (b := y.natAbs) (by omega) (by omega)), CK_pure hp1]
 rw [CK_pure (hp2 _)]
 simp only [go_sem, Nat.reduceBEq, Nat.reduceAdd, Nat.reduceLeDiff, Nat.reduceSub, reduceCtorEq, ↓reduceIte, ]
 rw [CK_pure (hp3 _)]
 simp only [go_sem, Nat.reduceBEq, Nat.reduceAdd, Nat.reduceLeDiff, Nat.reduceSub, reduceCtorEq, ↓reduceIte, ]
 refine ⟨by simp [drawOk, apart, disjoint, callAt, footAt, AOp.isCall, hB], ?_⟩
 rw [RV_str, mul_text]
 exact hT _
theorem pure227 {x : Int} {d : Nat} (hx : (dec x.natAbs).length ≤ 60) (hd : 1 ≤ d) (hd4 : d ≤ 4) : Pure Gam 227 [.str (itext x), .str (itext (d : Int))] (.str (ratText (decide (x < 0) && !decide (x.natAbs / Nat.gcd x.natAbs d = 0)) (x.natAbs / Nat.gcd x.natAbs d) (d / Nat.gcd x.natAbs d))) := by
 refine Pure.of rfl fn227 rfl rfl rfl rfl rfl fun D B clk T hB hT => ?_
 have hdl : (dec d).length ≤ 1 := dec_len (by omega) (by omega)
 have hp1 : Pure Gam 236 [.str (dec x.natAbs), .str [49]] (.str (dec x.natAbs)) := by
   have := pure236 (a := x.natAbs) (b := 1) (by omega) (by rw [dec_one]; simp)
   rwa [dec_one, Nat.mul_one] at this
 have hp2 : Pure Gam 236 [.str [49], .str (dec d)] (.str (dec d)) := by
   have := pure236 (a := 1) (b := d) (by rw [dec_one]; simp) (by omega)
   rwa [dec_one, Nat.one_mul] at this
 have hdn : ((d : Int)).natAbs = d := Int.natAbs_natCast d
 have hdz : decide ((d : Int) < 0) = false := by rw [decide_eq_false_iff_not]; omega
 have hd0 : decide (dec d = [48]) = false := by rw [dec_is_zero, decide_eq_false_iff_not]; omega
 have hr := pure179 (z := (d : Int)) (by rw [hdn]; omega)
 rw [hdn, hdz] at hr
 have hle1 : (dec (x.natAbs / Nat.gcd x.natAbs d)).length ≤ 150 := Nat.le_trans (dec_len_le (Nat.div_le_self _ _)) (by omega)
 have hle2 : (dec (d / Nat.gcd x.natAbs d)).length ≤ 150 := Nat.le_trans (dec_len_le (Nat.div_le_self _ _)) (by omega)
 simp only [go_sem, Nat.reduceBEq, Nat.reduceAdd, Nat.reduceLeDiff, Nat.reduceSub, reduceCtorEq, ↓reduceIte, af227, hB]
 rw [CK_pure (pure179 (by omega))]
 simp only [go_sem, Nat.reduceBEq, Nat.reduceAdd, Nat.reduceLeDiff, Nat.reduceSub, reduceCtorEq, ↓reduceIte, hB, eRat, dec_one]
 rw [CK_pure hr]
 simp only [go_sem, Nat.reduceBEq, Nat.reduceAdd, Nat.reduceLeDiff, Nat.reduceSub, reduceCtorEq, ↓reduceIte, hB, eRat, dec_one, Bool.not_true, Bool.not_false, hd0, K_draw, CK_pure hp1, CK_pure hp2]
 rw [CK_pure (pure216 (by omega) (by omega) (by omega))]
 simp only [go_sem, Nat.reduceBEq, Nat.reduceAdd, Nat.reduceLeDiff, Nat.reduceSub, reduceCtorEq, ↓reduceIte, ]
 rw [CK_pure (pure217 hle1 hle2)]
 simp only [go_sem, Nat.reduceBEq, Nat.reduceAdd, Nat.reduceLeDiff, Nat.reduceSub, reduceCtorEq, ↓reduceIte, ]
 refine ⟨by simp [drawOk, apart, disjoint, callAt, footAt, AOp.isCall, hB], ?_⟩
 rw [RV_str]
 have := hT
 rw [Bool.not_not]
 exact this _
section
variable {l : List Int}
def BigS (v : AV) : Prop := ∃ z : Int, v = .str (itext z) ∧ z.natAbs < 10 ^ 26
theorem gen247 (hl : ChOk l) : GenOk l 247 [] BigS := by
 refine GenOk.of rfl fn247 rfl rfl rfl rfl rfl fun D B p g i clk T hB hs hD hi hR => ?_
 simp only [go_sem, Nat.reduceBEq, af247, hB]
 refine CK_gen (gen30 hl (by decide) (by decide)) hB hs hD hi ?_
 clear hB hD hi
 rintro v D i ⟨r, rfl, hr1, hr2⟩ hB hD hi
 obtain h6 | h7 | h8 : r = 6 ∨ r = 7 ∨ (r ≠ 6 ∧ r ≠ 7) := by omega
 · subst h6
   simp only [go_sem, Nat.reduceBEq, Int.reduceEq, decide_true, decide_false]
   refine CK_gen (gen30 hl (by decide) (by decide)) hB hs hD hi ?_
   clear hB hD hi
   rintro v D i ⟨r, rfl, hr3, hr4⟩ hB hD hi
   simp only [go_sem, Nat.reduceBEq, wrap_i64 (n := r - 1000) (by omega) (by omega)]
   rw [CK_pure (pure72 (by omega) (by omega))]
   simp only [go_sem, Nat.reduceBEq, ]
   rw [RV_str]
   exact hR _ _ i (by rw [out_get hB hs]; exact hD) hi ⟨_, rfl, by omega⟩
 · subst h7
   simp only [go_sem, Nat.reduceBEq, Int.reduceEq, decide_true, decide_false]
   refine CK_gen (gen30 hl (by decide) (by decide)) hB hs hD hi ?_
   clear hB hD hi
   rintro v D i ⟨x, rfl, hr3, hr4⟩ hB hD hi
   simp only [go_sem, Nat.reduceBEq, wrap_i64 (n := x - 549755813888) (by omega) (by omega)]
   rw [CK_pure (pure72 (by omega) (by omega))]
   simp only [go_sem, Nat.reduceBEq, ]
   refine CK_gen (gen30 hl (by decide) (by decide)) hB hs hD hi ?_
   clear hB hD hi
   rintro v D i ⟨y, rfl, hr5, hr6⟩ hB hD hi
   simp only [go_sem, Nat.reduceBEq, ]
   rw [CK_pure (pure72 (by omega) (by omega))]
   have hx : (x - 549755813888).natAbs < 10 ^ 13 := by omega
   have hy : y.natAbs < 10 ^ 13 := by omega
   have hxy : (x - 549755813888).natAbs * y.natAbs < 10 ^ 26 := Nat.lt_of_le_of_lt (Nat.mul_le_mul (Nat.le_sub_one_of_lt hx) (Nat.le_sub_one_of_lt hy)) (by decide)
   simp only [go_sem, Nat.reduceBEq, ]
   rw [CK_pure (pure254 (Nat.le_trans (dec_len (k := 13) (by omega) hx) (by omega)) (Nat.le_trans (dec_len (k := 13) (by omega) hy) (by omega)) (Nat.le_trans (dec_len (k := 26) (by omega) hxy) (by omega)))]
   simp only [go_sem, Nat.reduceBEq, ]
   rw [RV_str]
   exact hR _ _ i (by rw [out_get hB hs]; exact hD) hi ⟨_, rfl, by rw [Int.natAbs_mul]; exact hxy⟩
 · have e6 : decide (r = 6) = false := by simp [h8.1]
   have e7 : decide (r = 7) = false := by simp [h8.2]
   simp only [go_sem, Nat.reduceBEq, e6, e7]
   refine CK_gen (gen30 hl (by decide) (by decide)) hB hs hD hi ?_
   clear hB hD hi
   rintro v D i ⟨r, rfl, hr3, hr4⟩ hB hD hi
   simp only [go_sem, Nat.reduceBEq, wrap_i64 (n := r - 4) (by omega) (by omega)]
   rw [CK_pure (pure72 (by omega) (by omega))]
   simp only [go_sem, Nat.reduceBEq, ]
   rw [RV_str]
   exact hR _ _ i (by rw [out_get hB hs]; exact hD) hi ⟨_, rfl, by omega⟩
end
section
variable {l : List Int}
theorem rat_text {z : Int} {d : Nat} (hz : z.natAbs < 10 ^ 26) (hd : 1 ≤ d) (hd4 : d ≤ 4) : RatS (ratText (decide (z < 0) && !decide (z.natAbs / Nat.gcd z.natAbs d = 0)) (z.natAbs / Nat.gcd z.natAbs d) (d / Nat.gcd z.natAbs d)) := by
 have hg : 0 < Nat.gcd z.natAbs d := Nat.gcd_pos_of_pos_right _ hd
 have hcop : Nat.gcd (z.natAbs / Nat.gcd z.natAbs d) (d / Nat.gcd z.natAbs d) = 1 := Nat.gcd_div_gcd_div_gcd_of_pos_right hd
 have h1 : z.natAbs / Nat.gcd z.natAbs d ≤ z.natAbs := Nat.div_le_self _ _
 have h2 : d / Nat.gcd z.natAbs d ≤ d := Nat.div_le_self _ _
 have h3 : 0 < d / Nat.gcd z.natAbs d := Nat.div_pos (Nat.le_of_dvd hd (Nat.gcd_dvd_right _ _)) hg
 generalize z.natAbs / Nat.gcd z.natAbs d = n at *
 generalize d / Nat.gcd z.natAbs d = e at *
 obtain ⟨w, hw, hwn⟩ : ∃ w : Int, itext w = (if (decide (z < 0) && !decide (n = 0)) = true then [45] else []) ++ dec n ∧ w.natAbs = n := by
   by_cases hneg : (decide (z < 0) && !decide (n = 0)) = true
   · simp only [Bool.and_eq_true, decide_eq_true_iff, Bool.not_eq_true', decide_eq_false_iff_not] at hneg
     refine ⟨-(n : Int), ?_, by omega⟩
     rw [itext, if_pos (by omega), show (-(n : Int)).natAbs = n by omega]
     simp [hneg.1, hneg.2]
   · refine ⟨(n : Int), ?_, by omega⟩
     rw [if_neg hneg, itext, if_neg (by omega), Int.natAbs_natCast]
     rfl
 unfold ratText
 rw [← hw]
 by_cases he : e = 1
 · rw [if_pos he, List.append_nil]
   exact .inl (ints_itext (by omega))
 · rw [if_neg he]
   exact .inr ⟨w, e, rfl, by omega, by omega, by omega, by rw [hwn]; exact hcop⟩
theorem gen248 (hl : ChOk l) : GenOk l 248 [] fun v => ∃ a, v = .str a ∧ RatS a := by
 refine GenOk.of rfl fn248 rfl rfl rfl rfl rfl fun D B p g i clk T hB hs hD hi hR => ?_
 simp only [go_sem, Nat.reduceBEq, af248, hB]
 refine CK_gen (gen247 hl) hB hs hD hi ?_
 clear hB hD hi
 rintro v D i ⟨z, rfl, hz⟩ hB hD hi
 simp only [go_sem, Nat.reduceBEq, ]
 refine CK_gen (gen30 hl (by decide) (by decide)) hB hs hD hi ?_
 clear hB hD hi
 rintro v D i ⟨r, rfl, hr3, hr4⟩ hB hD hi
 obtain ⟨k, rfl⟩ : ∃ k : Nat, r = k := ⟨r.toNat, by omega⟩
 have e1 : IntKind.i64.wrap (1 + (k : Int)) = ((1 + k : Nat) : Int) := by rw [wrap_i64 (by omega) (by omega)]; omega
 simp only [go_sem, Nat.reduceBEq, e1]
 rw [CK_pure (pure72 (by omega) (by omega))]
 simp only [go_sem, Nat.reduceBEq, ]
 rw [CK_pure (pure227 (Nat.le_trans (dec_len (k := 26) (by omega) hz) (by omega)) (by omega) (by omega))]
 simp only [go_sem, Nat.reduceBEq, ]
 rw [RV_str]
 exact hR _ _ i (by rw [out_get hB hs]; exact hD) hi ⟨_, rfl, rat_text hz (by omega) (by omega)⟩
theorem num_ok (hl : ChOk l) : NumOk l := by
 intro s hs23
 refine GenOk.of rfl fn240 rfl rfl rfl rfl rfl fun D B p g i clk T hB hs hD hi hR => ?_
 rcases hs23 with rfl | rfl
 · simp only [go_sem, Nat.reduceBEq, af240, hB, nat, Int.reduceEq, decide_true, decide_false]
   refine CK_gen (gen247 hl) hB hs hD hi ?_
   clear hB hD hi
   rintro v D i ⟨z, rfl, hz⟩ hB hD hi
   simp only [go_sem, Nat.reduceBEq, ]
   rw [RV_str]
   exact hR _ _ i (by rw [out_get hB hs]; exact hD) hi ⟨_, rfl, .inl ⟨rfl, ints_itext (by omega)⟩⟩
 · simp only [go_sem, Nat.reduceBEq, af240, hB, nat, Int.reduceEq, decide_true, decide_false]
   refine CK_gen (gen248 hl) hB hs hD hi ?_
   clear hB hD hi
   rintro v D i ⟨a, rfl, ha⟩ hB hD hi
   simp only [go_sem, Nat.reduceBEq, ]
   rw [RV_str]
   exact hR _ _ i (by rw [out_get hB hs]; exact hD) hi ⟨_, rfl, .inr ⟨rfl, ha⟩⟩
end
theorem slS_lit1 {h : List AObj} {c : Nat} {s : List Nat} {k : IntKind} : slV h none (.str (c :: s)) none (some (.int k 1)) none = some (.str [c], h) := by
 simp [slV, sliceVal, bound]
theorem pure276_neg {t : List Nat} : Pure Gam 276 [.str (45 :: t), .str [45]] (.bool true) := by
 refine Pure.of rfl fn276 rfl rfl rfl rfl rfl fun D B clk T hB hT => ?_
 have e1 : decide ((1 : Int) ≤ ((t.length + 1 : Nat) : Int)) = true := by rw [decide_eq_true_iff]; omega
 simp only [go_sem, Nat.reduceBEq, af276, Nat.zero_add, Int.cast_ofNat_Int, e1, slS_lit1, decide_true]
 rw [RV_bool]
 exact hT _
theorem pure276_pos {c : Nat} {t : List Nat} (hc : c ≠ 45) : Pure Gam 276 [.str (c :: t), .str [45]] (.bool false) := by
 refine Pure.of rfl fn276 rfl rfl rfl rfl rfl fun D B clk T hB hT => ?_
 have e1 : decide ((1 : Int) ≤ ((t.length + 1 : Nat) : Int)) = true := by rw [decide_eq_true_iff]; omega
 have e2 : decide ([c] = [45]) = false := by simp [hc]
 simp only [go_sem, Nat.reduceBEq, af276, Nat.zero_add, Int.cast_ofNat_Int, e1, slS_lit1, e2]
 rw [RV_bool]
 exact hT _
theorem pure264_neg {t : List Nat} : Pure Gam 264 [.str (45 :: t), .str [45]] (.tup [.str t, .bool true]) := by
 have hp : Pure Gam 269 [.str (45 :: t), .str [45]] (.tup [.str t, .bool true]) := by
   refine Pure.of rfl fn269 rfl rfl rfl rfl rfl fun D B clk T hB hT => ?_
   simp only [go_sem, Nat.reduceBEq, af269]
   rw [CK_pure pure276_neg]
   simp only [go_sem, Nat.reduceBEq, Bool.not_true, Nat.zero_add, Int.cast_ofNat_Int, slS_one]
   rw [RV_some rfl rfl]
   exact hT _
 refine Pure.of rfl fn264 rfl rfl rfl rfl rfl fun D B clk T hB hT => ?_
 simp only [go_sem, Nat.reduceBEq, af264]
 rw [CK_pure hp]
 simp only [go_sem, Nat.reduceBEq, ]
 rw [RV_some rfl rfl]
 exact hT _
theorem pure264_pos {c : Nat} {t : List Nat} (hc : c ≠ 45) : Pure Gam 264 [.str (c :: t), .str [45]] (.tup [.str (c :: t), .bool false]) := by
 have hp : Pure Gam 269 [.str (c :: t), .str [45]] (.tup [.str (c :: t), .bool false]) := by
   refine Pure.of rfl fn269 rfl rfl rfl rfl rfl fun D B clk T hB hT => ?_
   simp only [go_sem, Nat.reduceBEq, af269]
   rw [CK_pure (pure276_pos hc)]
   simp only [go_sem, Nat.reduceBEq, Bool.not_false]
   rw [RV_some rfl rfl]
   exact hT _
 refine Pure.of rfl fn264 rfl rfl rfl rfl rfl fun D B clk T hB hT => ?_
 simp only [go_sem, Nat.reduceBEq, af264]
 rw [CK_pure hp]
 simp only [go_sem, Nat.reduceBEq, ]
 rw [RV_some rfl rfl]
 exact hT _
end Go.Proofs.YtbeooboebfbchaaGreatDoor.Am
