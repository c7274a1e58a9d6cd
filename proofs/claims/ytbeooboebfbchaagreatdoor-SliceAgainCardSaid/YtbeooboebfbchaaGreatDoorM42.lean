/- Walking: slices.ContainsFunc (printed by genIo.py). Walking: nodes are permitted, and have their sorts. Walking: nodes are permitted, and have their sorts (2). -/
import Derived.Test.YtbeooboebfbchaaGreatDoorM40
import Derived.Test.YtbeooboebfbchaaGreatDoorM41
set_option linter.unusedVariables false
set_option linter.unusedSimpArgs false
namespace Go.Proofs.YtbeooboebfbchaaGreatDoor.Am
open Go
set_option maxRecDepth 100000
theorem ids_fn {f : Nat} {cap : List AV} : (AV.fn f cap).ids = idsL cap := (rfl)
theorem obs_fn {f : Nat} {cap : List AV} : (AV.fn f cap).obs = [] := (rfl)
theorem reads210 {α : Type} {enc : α → AV} {xs : List α} {S : List (Nat × AObj)} {c : Nat} {cap : List AV} {P : α → Bool} {t : Tip} (hE : ∀ x, (enc x).cells.length = 1) (hld : ∀ x h, loadV h none (.iptr (enc x).cells 0) = some (enc x, h)) (hid : ∀ x, (enc x).ids = []) (hl : xs.length ≤ 2 ^ 20) (hC : Cov S (idsL cap)) (hP : ∀ x ∈ xs, Reads S c (enc x :: cap) (.bool (P x))) :
   ∃ r : Int, decide (0 ≤ r) = xs.any P ∧ Reads S 210 [.sl (xs.map enc) t, .fn c cap] (.int .i64 r) := by
 have hC' : Cov S (idsL [.sl (xs.map enc) .no, .fn c cap]) := by
   have : idsL [.sl (xs.map enc) .no, .fn c cap] = idsL cap := by simp [idsL, AV.ids, idsL_map hid]
   rw [this]; exact hC
 have key : ∀ n, n ≤ xs.length → ∃ r : Int, decide (0 ≤ r) = (xs.drop (xs.length - n)).any P ∧ ∀ (D L : List AObj) (B clk : Nat) (ks : List Kf) (ts : Tmps) (Q : Post), Has S D → ts 0 = .sl (xs.map enc) .no → ts 1 = .fn c cap → ts 7 = .int .i64 (xs.length : Int) → ts 8 = .int .i64 ((xs.length - n : Nat) : Int) →
     (∀ ts' clk', ts' 4 = .int .i64 r → K Gam B .ret ks ⟨ts', D ++ L, clk'⟩ Q) → (r = -1 → ∀ ts' clk', K Gam B (.exit 0) ks ⟨ts', D ++ L, clk'⟩ Q) → K Gam B (.loop c210_0) ks ⟨ts, D ++ L, clk⟩ Q := by
   intro n
   induction n with
   | zero =>
     intro _
     refine ⟨-1, by simp, fun D L B clk ks ts Q hS h0 h1 h7 h8 _ hx => ?_⟩
     have e1 : decide (((xs.length - 0 : Nat) : Int) < (xs.length : Int)) = false := by rw [decide_eq_false_iff_not]; omega
     refine K_unroll ?_
     simp only [go_sem, Nat.reduceBEq, h0, h1, h7, h8, c210_0, e1]
     exact hx rfl _ _
   | succ n ih =>
     intro hn
     have hk : xs.length - (n + 1) < xs.length := by omega
     have hdr : xs.drop (xs.length - (n + 1)) = xs[xs.length - (n + 1)] :: xs.drop (xs.length - n) := by
       rw [List.drop_eq_getElem_cons hk]
       congr 2
       omega
     have e1 : decide (((xs.length - (n + 1) : Nat) : Int) < (xs.length : Int)) = true := by rw [decide_eq_true_iff]; omega
     have hpx := hP _ (List.getElem_mem hk)
     generalize hxx : xs[xs.length - (n + 1)] = x at hdr hpx
     have hidx : ∀ h, idxAV h 1 (.sl (xs.map enc) .no) (.int .i64 ((xs.length - (n + 1) : Nat) : Int)) = some (.iptr (enc x).cells 0, h) := fun h => by
       rw [← hxx]
       exact idxAV_sl (by simp [hk]) (hE _)
     have hcx : ∀ h, loadV h none (.iptr (enc x).cells 0) = some (enc x, h) := hld x
     cases hpb : P x with
     | true =>
       refine ⟨((xs.length - (n + 1) : Nat) : Int), ?_, fun D L B clk ks ts Q hS h0 h1 h7 h8 hr _ => ?_⟩
       · rw [hdr, List.any_cons, hpb, Bool.true_or, decide_eq_true_iff]; omega
       · refine K_unroll ?_
         rw [hpb] at hpx
         simp only [go_sem, Nat.reduceBEq, Nat.reduceAdd, Nat.reduceLeDiff, Nat.reduceSub, reduceCtorEq, ↓reduceIte, h0, h1, h7, h8, c210_0, e1, hidx, hcx, CK_reads hpx hS.app]
         exact hr _ _ (by simp [upd_at])
     | false =>
       obtain ⟨r, h1', h2'⟩ := ih (by omega)
       refine ⟨r, by rw [h1', hdr, List.any_cons, hpb, Bool.false_or], fun D L B clk ks ts Q hS h0 h1 h7 h8 hr hx => ?_⟩
       have e2 : IntKind.i64.wrap (((xs.length - (n + 1) : Nat) : Int) + 1) = ((xs.length - n : Nat) : Int) := by rw [wrap_i64 (by omega) (by omega)]; omega
       refine K_unroll ?_
       rw [hpb] at hpx
       simp only [go_sem, Nat.reduceBEq, Nat.reduceAdd, Nat.reduceLeDiff, Nat.reduceSub, reduceCtorEq, ↓reduceIte, h0, h1, h7, h8, c210_0, e1, hidx, hcx, CK_reads hpx hS.app, e2]
       exact h2' D L B _ ks _ Q hS (by simp [upd_at, h0]) (by simp [upd_at, h1]) (by simp [upd_at, h7]) (by simp [upd_at]) hr hx
 obtain ⟨r, h1, h2⟩ := key xs.length (Nat.le_refl _)
 rw [Nat.sub_self, List.drop_zero] at h1
 refine ⟨r, h1, Reads.of rfl fn210 rfl rfl rfl rfl (by simpa [cvL, AV.cv] using hC') fun D B clk T hB hS hlt hT => ?_⟩
 simp only [go_sem, Nat.reduceBEq, af210, List.length_map]
 refine h2 D _ B _ _ _ _ hS (by simp [upd_at, entry_zero]) (by simp [upd_at, entry_succ, entry_zero]) (by simp [upd_at]) (by simp [upd_at]) (fun ts' clk' q4 => ?_) (fun hr0 ts' clk' => ?_)
 · simp only [go_sem, Nat.reduceBEq, q4]
   rw [RV_int]
   exact hT _ hS.app
 · simp only [go_sem, Nat.reduceBEq, ]
   rw [RV_int, ← hr0]
   exact hT _ hS.app
theorem reads168 {α : Type} {enc : α → AV} {xs : List α} {S : List (Nat × AObj)} {c : Nat} {cap : List AV} {P : α → Bool} {t : Tip} (hE : ∀ x, (enc x).cells.length = 1) (hld : ∀ x h, loadV h none (.iptr (enc x).cells 0) = some (enc x, h)) (hid : ∀ x, (enc x).ids = []) (hl : xs.length ≤ 2 ^ 20) (hC : Cov S (idsL cap)) (hP : ∀ x ∈ xs, Reads S c (enc x :: cap) (.bool (P x))) :
   Reads S 168 [.sl (xs.map enc) t, .fn c cap] (.bool (xs.any P)) := by
 obtain ⟨r, h1, h2⟩ := reads210 (t := .no) hE hld hid hl hC hP
 have hC' : Cov S (idsL [.sl (xs.map enc) .no, .fn c cap]) := by
   have : idsL [.sl (xs.map enc) .no, .fn c cap] = idsL cap := by simp [idsL, AV.ids, idsL_map hid]
   rw [this]; exact hC
 refine Reads.of rfl fn168 rfl rfl rfl rfl (by simpa [cvL, AV.cv] using hC') fun D B clk T hB hS hlt hT => ?_
 simp only [go_sem, Nat.reduceBEq, af168, CK_reads h2 hS.app, h1]
 rw [RV_bool]
 exact hT _ hS.app
theorem reads139 {α : Type} {enc : α → AV} {xs : List α} {S : List (Nat × AObj)} {c : Nat} {cap : List AV} {P : α → Bool} {t : Tip} (hE : ∀ x, (enc x).cells.length = 2) (hld : ∀ x h, loadV h (some 2) (.iptr (enc x).cells 0) = some (enc x, h)) (hid : ∀ x, (enc x).ids = []) (hl : xs.length ≤ 2 ^ 20) (hC : Cov S (idsL cap)) (hP : ∀ x ∈ xs, Reads S c (enc x :: cap) (.bool (P x))) :
   ∃ r : Int, decide (0 ≤ r) = xs.any P ∧ Reads S 139 [.sl (xs.map enc) t, .fn c cap] (.int .i64 r) := by
 have hC' : Cov S (idsL [.sl (xs.map enc) .no, .fn c cap]) := by
   have : idsL [.sl (xs.map enc) .no, .fn c cap] = idsL cap := by simp [idsL, AV.ids, idsL_map hid]
   rw [this]; exact hC
 have key : ∀ n, n ≤ xs.length → ∃ r : Int, decide (0 ≤ r) = (xs.drop (xs.length - n)).any P ∧ ∀ (D L : List AObj) (B clk : Nat) (ks : List Kf) (ts : Tmps) (Q : Post), Has S D → ts 0 = .sl (xs.map enc) .no → ts 1 = .fn c cap → ts 7 = .int .i64 (xs.length : Int) → ts 8 = .int .i64 ((xs.length - n : Nat) : Int) →
     (∀ ts' clk', ts' 4 = .int .i64 r → K Gam B .ret ks ⟨ts', D ++ L, clk'⟩ Q) → (r = -1 → ∀ ts' clk', K Gam B (.exit 0) ks ⟨ts', D ++ L, clk'⟩ Q) → K Gam B (.loop c139_0) ks ⟨ts, D ++ L, clk⟩ Q := by
   intro n
   induction n with
   | zero =>
     intro _
     refine ⟨-1, by simp, fun D L B clk ks ts Q hS h0 h1 h7 h8 _ hx => ?_⟩
     have e1 : decide (((xs.length - 0 : Nat) : Int) < (xs.length : Int)) = false := by rw [decide_eq_false_iff_not]; omega
     refine K_unroll ?_
     simp only [go_sem, Nat.reduceBEq, h0, h1, h7, h8, c139_0, e1]
     exact hx rfl _ _
   | succ n ih =>
     intro hn
     have hk : xs.length - (n + 1) < xs.length := by omega
     have hdr : xs.drop (xs.length - (n + 1)) = xs[xs.length - (n + 1)] :: xs.drop (xs.length - n) := by
       rw [List.drop_eq_getElem_cons hk]
       congr 2
       omega
     have e1 : decide (((xs.length - (n + 1) : Nat) : Int) < (xs.length : Int)) = true := by rw [decide_eq_true_iff]; omega
     have hpx := hP _ (List.getElem_mem hk)
     generalize hxx : xs[xs.length - (n + 1)] = x at hdr hpx
     have hidx : ∀ h, idxAV h 2 (.sl (xs.map enc) .no) (.int .i64 ((xs.length - (n + 1) : Nat) : Int)) = some (.iptr (enc x).cells 0, h) := fun h => by
       rw [← hxx]
       exact idxAV_sl (by simp [hk]) (hE _)
     have hcx : ∀ h, loadV h (some 2) (.iptr (enc x).cells 0) = some (enc x, h) := hld x
     cases hpb : P x with
     | true =>
       refine ⟨((xs.length - (n + 1) : Nat) : Int), ?_, fun D L B clk ks ts Q hS h0 h1 h7 h8 hr _ => ?_⟩
       · rw [hdr, List.any_cons, hpb, Bool.true_or, decide_eq_true_iff]; omega
       · refine K_unroll ?_
         rw [hpb] at hpx
         simp only [go_sem, Nat.reduceBEq, Nat.reduceAdd, Nat.reduceLeDiff, Nat.reduceSub, reduceCtorEq, ↓reduceIte, h0, h1, h7, h8, c139_0, e1, hidx, hcx, CK_reads hpx hS.app]
         exact hr _ _ (by simp [upd_at])
     | false =>
       obtain ⟨r, h1', h2'⟩ := ih (by omega)
       refine ⟨r, by rw [h1', hdr, List.any_cons, hpb, Bool.false_or], fun D L B clk ks ts Q hS h0 h1 h7 h8 hr hx => ?_⟩
       have e2 : IntKind.i64.wrap (((xs.length - (n + 1) : Nat) : Int) + 1) = ((xs.length - n : Nat) : Int) := by rw [wrap_i64 (by omega) (by omega)]; omega
       refine K_unroll ?_
       rw [hpb] at hpx
       simp only [go_sem, Nat.reduceBEq, Nat.reduceAdd, Nat.reduceLeDiff, Nat.reduceSub, reduceCtorEq, ↓reduceIte, h0, h1, h7, h8, c139_0, e1, hidx, hcx, CK_reads hpx hS.app, e2]
       exact h2' D L B _ ks _ Q hS (by simp [upd_at, h0]) (by simp [upd_at, h1]) (by simp [upd_at, h7]) (by simp [upd_at]) hr hx
 obtain ⟨r, h1, h2⟩ := key xs.length (Nat.le_refl _)
 rw [Nat.sub_self, List.drop_zero] at h1
 refine ⟨r, h1, Reads.of rfl fn139 rfl rfl rfl rfl (by simpa [cvL, AV.cv] using hC') fun D B clk T hB hS hlt hT => ?_⟩
 simp only [go_sem, Nat.reduceBEq, af139, List.length_map]
 refine h2 D _ B _ _ _ _ hS (by simp [upd_at, entry_zero]) (by simp [upd_at, entry_succ, entry_zero]) (by simp [upd_at]) (by simp [upd_at]) (fun ts' clk' q4 => ?_) (fun hr0 ts' clk' => ?_)
 · simp only [go_sem, Nat.reduceBEq, q4]
   rw [RV_int]
   exact hT _ hS.app
 · simp only [go_sem, Nat.reduceBEq, ]
   rw [RV_int, ← hr0]
   exact hT _ hS.app
theorem reads93 {α : Type} {enc : α → AV} {xs : List α} {S : List (Nat × AObj)} {c : Nat} {cap : List AV} {P : α → Bool} {t : Tip} (hE : ∀ x, (enc x).cells.length = 2) (hld : ∀ x h, loadV h (some 2) (.iptr (enc x).cells 0) = some (enc x, h)) (hid : ∀ x, (enc x).ids = []) (hl : xs.length ≤ 2 ^ 20) (hC : Cov S (idsL cap)) (hP : ∀ x ∈ xs, Reads S c (enc x :: cap) (.bool (P x))) :
   Reads S 93 [.sl (xs.map enc) t, .fn c cap] (.bool (xs.any P)) := by
 obtain ⟨r, h1, h2⟩ := reads139 (t := .no) hE hld hid hl hC hP
 have hC' : Cov S (idsL [.sl (xs.map enc) .no, .fn c cap]) := by
   have : idsL [.sl (xs.map enc) .no, .fn c cap] = idsL cap := by simp [idsL, AV.ids, idsL_map hid]
   rw [this]; exact hC
 refine Reads.of rfl fn93 rfl rfl rfl rfl (by simpa [cvL, AV.cv] using hC') fun D B clk T hB hS hlt hT => ?_
 simp only [go_sem, Nat.reduceBEq, af93, CK_reads h2 hS.app, h1]
 rw [RV_bool]
 exact hT _ hS.app
theorem reads166 {α : Type} {enc : α → AV} {xs : List α} {S : List (Nat × AObj)} {c : Nat} {cap : List AV} {P : α → Bool} {t : Tip} (hE : ∀ x, (enc x).cells.length = 3) (hld : ∀ x h, loadV h (some 3) (.iptr (enc x).cells 0) = some (enc x, h)) (hid : ∀ x, (enc x).ids = []) (hl : xs.length ≤ 2 ^ 20) (hC : Cov S (idsL cap)) (hP : ∀ x ∈ xs, Reads S c (enc x :: cap) (.bool (P x))) :
   ∃ r : Int, decide (0 ≤ r) = xs.any P ∧ Reads S 166 [.sl (xs.map enc) t, .fn c cap] (.int .i64 r) := by
 have hC' : Cov S (idsL [.sl (xs.map enc) .no, .fn c cap]) := by
   have : idsL [.sl (xs.map enc) .no, .fn c cap] = idsL cap := by simp [idsL, AV.ids, idsL_map hid]
   rw [this]; exact hC
 have key : ∀ n, n ≤ xs.length → ∃ r : Int, decide (0 ≤ r) = (xs.drop (xs.length - n)).any P ∧ ∀ (D L : List AObj) (B clk : Nat) (ks : List Kf) (ts : Tmps) (Q : Post), Has S D → ts 0 = .sl (xs.map enc) .no → ts 1 = .fn c cap → ts 7 = .int .i64 (xs.length : Int) → ts 8 = .int .i64 ((xs.length - n : Nat) : Int) →
     (∀ ts' clk', ts' 4 = .int .i64 r → K Gam B .ret ks ⟨ts', D ++ L, clk'⟩ Q) → (r = -1 → ∀ ts' clk', K Gam B (.exit 0) ks ⟨ts', D ++ L, clk'⟩ Q) → K Gam B (.loop c166_0) ks ⟨ts, D ++ L, clk⟩ Q := by
   intro n
   induction n with
   | zero =>
     intro _
     refine ⟨-1, by simp, fun D L B clk ks ts Q hS h0 h1 h7 h8 _ hx => ?_⟩
     have e1 : decide (((xs.length - 0 : Nat) : Int) < (xs.length : Int)) = false := by rw [decide_eq_false_iff_not]; omega
     refine K_unroll ?_
     simp only [go_sem, Nat.reduceBEq, h0, h1, h7, h8, c166_0, e1]
     exact hx rfl _ _
   | succ n ih =>
     intro hn
     have hk : xs.length - (n + 1) < xs.length := by omega
     have hdr : xs.drop (xs.length - (n + 1)) = xs[xs.length - (n + 1)] :: xs.drop (xs.length - n) := by
       rw [List.drop_eq_getElem_cons hk]
       congr 2
       omega
     have e1 : decide (((xs.length - (n + 1) : Nat) : Int) < (xs.length : Int)) = true := by rw [decide_eq_true_iff]; omega
     have hpx := hP _ (List.getElem_mem hk)
     generalize hxx : xs[xs.length - (n + 1)] = x at hdr hpx
     have hidx : ∀ h, idxAV h 3 (.sl (xs.map enc) .no) (.int .i64 ((xs.length - (n + 1) : Nat) : Int)) = some (.iptr (enc x).cells 0, h) := fun h => by
       rw [← hxx]
       exact idxAV_sl (by simp [hk]) (hE _)
     have hcx : ∀ h, loadV h (some 3) (.iptr (enc x).cells 0) = some (enc x, h) := hld x
     cases hpb : P x with
     | true =>
       refine ⟨((xs.length - (n + 1) : Nat) : Int), ?_, fun D L B clk ks ts Q hS h0 h1 h7 h8 hr _ => ?_⟩
       · rw [hdr, List.any_cons, hpb, Bool.true_or, decide_eq_true_iff]; omega
       · refine K_unroll ?_
         rw [hpb] at hpx
         simp only [go_sem, Nat.reduceBEq, Nat.reduceAdd, Nat.reduceLeDiff, Nat.reduceSub, reduceCtorEq, ↓reduceIte, h0, h1, h7, h8, c166_0, e1, hidx, hcx, CK_reads hpx hS.app]
         exact hr _ _ (by simp [upd_at])
     | false =>
       obtain ⟨r, h1', h2'⟩ := ih (by omega)
       refine ⟨r, by rw [h1', hdr, List.any_cons, hpb, Bool.false_or], fun D L B clk ks ts Q hS h0 h1 h7 h8 hr hx => ?_⟩
       have e2 : IntKind.i64.wrap (((xs.length - (n + 1) : Nat) : Int) + 1) = ((xs.length - n : Nat) : Int) := by rw [wrap_i64 (by omega) (by omega)]; omega
       refine K_unroll ?_
       rw [hpb] at hpx
       simp only [go_sem, Nat.reduceBEq, Nat.reduceAdd, Nat.reduceLeDiff, Nat.reduceSub, reduceCtorEq, ↓reduceIte, h0, h1, h7, h8, c166_0, e1, hidx, hcx, CK_reads hpx hS.app, e2]
       exact h2' D L B _ ks _ Q hS (by simp [upd_at, h0]) (by simp [upd_at, h1]) (by simp [upd_at, h7]) (by simp [upd_at]) hr hx
 obtain ⟨r, h1, h2⟩ := key xs.length (Nat.le_refl _)
 rw [Nat.sub_self, List.drop_zero] at h1
 refine ⟨r, h1, Reads.of rfl fn166 rfl rfl rfl rfl (by simpa [cvL, AV.cv] using hC') fun D B clk T hB hS hlt hT => ?_⟩
 simp only [go_sem, Nat.reduceBEq, af166, List.length_map]
 refine h2 D _ B _ _ _ _ hS (by simp [upd_at, entry_zero]) (by simp [upd_at, entry_succ, entry_zero]) (by simp [upd_at]) (by simp [upd_at]) (fun ts' clk' q4 => ?_) (fun hr0 ts' clk' => ?_)
 · simp only [go_sem, Nat.reduceBEq, q4]
   rw [RV_int]
   exact hT _ hS.app
 · simp only [go_sem, Nat.reduceBEq, ]
   rw [RV_int, ← hr0]
   exact hT _ hS.app
theorem reads118 {α : Type} {enc : α → AV} {xs : List α} {S : List (Nat × AObj)} {c : Nat} {cap : List AV} {P : α → Bool} {t : Tip} (hE : ∀ x, (enc x).cells.length = 3) (hld : ∀ x h, loadV h (some 3) (.iptr (enc x).cells 0) = some (enc x, h)) (hid : ∀ x, (enc x).ids = []) (hl : xs.length ≤ 2 ^ 20) (hC : Cov S (idsL cap)) (hP : ∀ x ∈ xs, Reads S c (enc x :: cap) (.bool (P x))) :
   Reads S 118 [.sl (xs.map enc) t, .fn c cap] (.bool (xs.any P)) := by
 obtain ⟨r, h1, h2⟩ := reads166 (t := .no) hE hld hid hl hC hP
 have hC' : Cov S (idsL [.sl (xs.map enc) .no, .fn c cap]) := by
   have : idsL [.sl (xs.map enc) .no, .fn c cap] = idsL cap := by simp [idsL, AV.ids, idsL_map hid]
   rw [this]; exact hC
 refine Reads.of rfl fn118 rfl rfl rfl rfl (by simpa [cvL, AV.cv] using hC') fun D B clk T hB hS hlt hT => ?_
 simp only [go_sem, Nat.reduceBEq, af118, CK_reads h2 hS.app, h1]
 rw [RV_bool]
 exact hT _ hS.app
theorem reads233 {α : Type} {enc : α → AV} {xs : List α} {S : List (Nat × AObj)} {c : Nat} {cap : List AV} {P : α → Bool} {t : Tip} (hE : ∀ x, (enc x).cells.length = 2) (hld : ∀ x h, loadV h (some 2) (.iptr (enc x).cells 0) = some (enc x, h)) (hid : ∀ x, (enc x).ids = []) (hl : xs.length ≤ 2 ^ 20) (hC : Cov S (idsL cap)) (hP : ∀ x ∈ xs, Reads S c (enc x :: cap) (.bool (P x))) :
   ∃ r : Int, decide (0 ≤ r) = xs.any P ∧ Reads S 233 [.sl (xs.map enc) t, .fn c cap] (.int .i64 r) := by
 have hC' : Cov S (idsL [.sl (xs.map enc) .no, .fn c cap]) := by
   have : idsL [.sl (xs.map enc) .no, .fn c cap] = idsL cap := by simp [idsL, AV.ids, idsL_map hid]
   rw [this]; exact hC
 have key : ∀ n, n ≤ xs.length → ∃ r : Int, decide (0 ≤ r) = (xs.drop (xs.length - n)).any P ∧ ∀ (D L : List AObj) (B clk : Nat) (ks : List Kf) (ts : Tmps) (Q : Post), Has S D → ts 0 = .sl (xs.map enc) .no → ts 1 = .fn c cap → ts 7 = .int .i64 (xs.length : Int) → ts 8 = .int .i64 ((xs.length - n : Nat) : Int) →
     (∀ ts' clk', ts' 4 = .int .i64 r → K Gam B .ret ks ⟨ts', D ++ L, clk'⟩ Q) → (r = -1 → ∀ ts' clk', K Gam B (.exit 0) ks ⟨ts', D ++ L, clk'⟩ Q) → K Gam B (.loop c233_0) ks ⟨ts, D ++ L, clk⟩ Q := by
   intro n
   induction n with
   | zero =>
     intro _
     refine ⟨-1, by simp, fun D L B clk ks ts Q hS h0 h1 h7 h8 _ hx => ?_⟩
     have e1 : decide (((xs.length - 0 : Nat) : Int) < (xs.length : Int)) = false := by rw [decide_eq_false_iff_not]; omega
     refine K_unroll ?_
     simp only [go_sem, Nat.reduceBEq, h0, h1, h7, h8, c233_0, e1]
     exact hx rfl _ _
   | succ n ih =>
     intro hn
     have hk : xs.length - (n + 1) < xs.length := by omega
     have hdr : xs.drop (xs.length - (n + 1)) = xs[xs.length - (n + 1)] :: xs.drop (xs.length - n) := by
       rw [List.drop_eq_getElem_cons hk]
       congr 2
       omega
     have e1 : decide (((xs.length - (n + 1) : Nat) : Int) < (xs.length : Int)) = true := by rw [decide_eq_true_iff]; omega
     have hpx := hP _ (List.getElem_mem hk)
     generalize hxx : xs[xs.length - (n + 1)] = x at hdr hpx
     have hidx : ∀ h, idxAV h 2 (.sl (xs.map enc) .no) (.int .i64 ((xs.length - (n + 1) : Nat) : Int)) = some (.iptr (enc x).cells 0, h) := fun h => by
       rw [← hxx]
       exact idxAV_sl (by simp [hk]) (hE _)
     have hcx : ∀ h, loadV h (some 2) (.iptr (enc x).cells 0) = some (enc x, h) := hld x
     cases hpb : P x with
     | true =>
       refine ⟨((xs.length - (n + 1) : Nat) : Int), ?_, fun D L B clk ks ts Q hS h0 h1 h7 h8 hr _ => ?_⟩
       · rw [hdr, List.any_cons, hpb, Bool.true_or, decide_eq_true_iff]; omega
       · refine K_unroll ?_
         rw [hpb] at hpx
         simp only [go_sem, Nat.reduceBEq, Nat.reduceAdd, Nat.reduceLeDiff, Nat.reduceSub, reduceCtorEq, ↓reduceIte, h0, h1, h7, h8, c233_0, e1, hidx, hcx, CK_reads hpx hS.app]
         exact hr _ _ (by simp [upd_at])
     | false =>
       obtain ⟨r, h1', h2'⟩ := ih (by omega)
       refine ⟨r, by rw [h1', hdr, List.any_cons, hpb, Bool.false_or], fun D L B clk ks ts Q hS h0 h1 h7 h8 hr hx => ?_⟩
       have e2 : IntKind.i64.wrap (((xs.length - (n + 1) : Nat) : Int) + 1) = ((xs.length - n : Nat) : Int) := by rw [wrap_i64 (by omega) (by omega)]; omega
       refine K_unroll ?_
       rw [hpb] at hpx
       simp only [go_sem, Nat.reduceBEq, Nat.reduceAdd, Nat.reduceLeDiff, Nat.reduceSub, reduceCtorEq, ↓reduceIte, h0, h1, h7, h8, c233_0, e1, hidx, hcx, CK_reads hpx hS.app, e2]
       exact h2' D L B _ ks _ Q hS (by simp [upd_at, h0]) (by simp [upd_at, h1]) (by simp [upd_at, h7]) (by simp [upd_at]) hr hx
 obtain ⟨r, h1, h2⟩ := key xs.length (Nat.le_refl _)
 rw [Nat.sub_self, List.drop_zero] at h1
 refine ⟨r, h1, Reads.of rfl fn233 rfl rfl rfl rfl (by simpa [cvL, AV.cv] using hC') fun D B clk T hB hS hlt hT => ?_⟩
 simp only [go_sem, Nat.reduceBEq, af233, List.length_map]
 refine h2 D _ B _ _ _ _ hS (by simp [upd_at, entry_zero]) (by simp [upd_at, entry_succ, entry_zero]) (by simp [upd_at]) (by simp [upd_at]) (fun ts' clk' q4 => ?_) (fun hr0 ts' clk' => ?_)
 · simp only [go_sem, Nat.reduceBEq, q4]
   rw [RV_int]
   exact hT _ hS.app
 · simp only [go_sem, Nat.reduceBEq, ]
   rw [RV_int, ← hr0]
   exact hT _ hS.app
theorem reads213 {α : Type} {enc : α → AV} {xs : List α} {S : List (Nat × AObj)} {c : Nat} {cap : List AV} {P : α → Bool} {t : Tip} (hE : ∀ x, (enc x).cells.length = 2) (hld : ∀ x h, loadV h (some 2) (.iptr (enc x).cells 0) = some (enc x, h)) (hid : ∀ x, (enc x).ids = []) (hl : xs.length ≤ 2 ^ 20) (hC : Cov S (idsL cap)) (hP : ∀ x ∈ xs, Reads S c (enc x :: cap) (.bool (P x))) :
   Reads S 213 [.sl (xs.map enc) t, .fn c cap] (.bool (xs.any P)) := by
 obtain ⟨r, h1, h2⟩ := reads233 (t := .no) hE hld hid hl hC hP
 have hC' : Cov S (idsL [.sl (xs.map enc) .no, .fn c cap]) := by
   have : idsL [.sl (xs.map enc) .no, .fn c cap] = idsL cap := by simp [idsL, AV.ids, idsL_map hid]
   rw [this]; exact hC
 refine Reads.of rfl fn213 rfl rfl rfl rfl (by simpa [cvL, AV.cv] using hC') fun D B clk T hB hS hlt hT => ?_
 simp only [go_sem, Nat.reduceBEq, af213, CK_reads h2 hS.app, h1]
 rw [RV_bool]
 exact hT _ hS.app
theorem has_loc {D L : List AObj} {B k : Nat} {o : AObj} (hB : D.length = B) (hL : L[k]? = some o) : Has [(B + k, o)] (D ++ L) := by
 refine Has.cons ?_ Has.nil
 rw [loc_get hB]
 exact hL
theorem rd_nat {x : Nat} : (nat x).cells.length = 1 := (rfl)
theorem reads266 {s g : Nat} {x y : Int} : Reads [(s, .blk g [.int .i64 y] false false 0)] 266 [.int .i64 x, .ptr s g 0 0] (.bool (!decide (x = y))) := by
 refine Reads.of rfl fn266 rfl rfl rfl rfl (Cov.one rfl) fun D B clk T hB hS hlt hT => ?_
 have hs := hlt _ List.mem_cons_self
 have hb := blk_at (g := g) (hS _ List.mem_cons_self)
 dsimp only at hs hb
 simp only [go_sem, Nat.reduceBEq, af266, out_blk hB hs, hb]
 rw [RV_bool]
 exact hT _ hS.app
theorem pure261 {ss : List Nat} {s : Nat} {t : Tip} (h : ∀ x ∈ ss, x = s) (hl : ss.length ≤ 2 ^ 20) : Pure Gam 261 [.sl (ss.map nat) t, nat s] (.bool true) := by
 refine Pure.of rfl fn261 rfl rfl rfl (az := [.sl (ss.map nat) .no, nat s]) rfl (by simp [idsL, AV.ids, idsL_map (f := nat) fun _ => ids_nat, ids_nat]) fun D B clk T hB hT => ?_
 have hr : ∀ g, Reads [(B + 0, .blk g [.int .i64 (s : Int)] false false 0)] 168 [.sl (ss.map nat) .no, .fn 266 [.ptr (B + 0) g 0 0]] (.bool (ss.any fun x => !decide ((x : Int) = (s : Int)))) := fun g =>
   reads168 (enc := nat) (P := fun x => !decide ((x : Int) = (s : Int))) (fun _ => rfl) (fun _ _ => rfl) (fun _ => rfl) hl (Cov.one rfl) fun x _ => reads266
 have e : (ss.any fun x => !decide ((x : Int) = (s : Int))) = false := by
   rw [List.any_eq_false]
   intro x hx
   simp [h x hx]
 rw [e] at hr
 simp only [go_sem, Nat.reduceBEq, af261, nat, hB]
 rw [CK_reads (hr _) (has_loc hB rfl)]
 simp only [go_sem, Nat.reduceBEq, Bool.not_false]
 rw [RV_bool]
 exact hT _
theorem pure260_true {s : Int} : Pure Gam 260 [.bool true, .int .i64 s] (.int .i64 s) := by
 refine Pure.of rfl fn260 rfl rfl rfl rfl rfl fun D B clk T hB hT => ?_
 simp only [go_sem, Nat.reduceBEq, af260]
 rw [RV_int]
 exact hT _
theorem pure262 {s : Nat} (hs : s = 2 ∨ s = 3) : Pure Gam 262 [nat s] (.bool true) := by
 refine Pure.of rfl fn262 rfl rfl rfl rfl rfl fun D B clk T hB hT => ?_
 rcases hs with rfl | rfl
 · simp only [go_sem, Nat.reduceBEq, af262, nat, Int.cast_ofNat_Int, Int.reduceEq, decide_true, decide_false]
   rw [RV_bool]
   exact hT _
 · simp only [go_sem, Nat.reduceBEq, af262, nat, Int.cast_ofNat_Int, Int.reduceEq, decide_true, decide_false]
   rw [RV_bool]
   exact hT _
theorem pure256 {s : Nat} (h1 : 1 ≤ s) (h4 : s ≤ 4) : Pure Gam 256 [nat s] (.bool true) := by
 refine Pure.of rfl fn256 rfl rfl rfl rfl rfl fun D B clk T hB hT => ?_
 have e1 : decide ((1 : Int) ≤ (s : Int)) = true := by rw [decide_eq_true_iff]; omega
 have e2 : decide ((s : Int) ≤ 4) = true := by rw [decide_eq_true_iff]; omega
 simp only [go_sem, Nat.reduceBEq, af256, nat, e1, e2]
 rw [RV_bool]
 exact hT _
theorem pure167 {v : Var} (hv : v ∈ allVars) : Pure Gam 167 [.str v.name] (.bool true) := by
 refine Pure.tab (tab := tab167) rfl rfl ?_
 simp only [allVars, List.mem_cons, List.not_mem_nil, or_false] at hv
 rcases hv with rfl | rfl | rfl | rfl | rfl | rfl | rfl | rfl <;> rfl
theorem sort_var {v : Var} (hv : v ∈ allVars) : 1 ≤ v.sort ∧ v.sort ≤ 4 := by
 simp only [allVars, List.mem_cons, List.not_mem_nil, or_false] at hv
 rcases hv with rfl | rfl | rfl | rfl | rfl | rfl | rfl | rfl <;> exact ⟨by decide, by decide⟩
theorem idxAV_one {h : List AObj} {K k : IntKind} {n : Int} {a : AV} {xs : List AV} {t : Tip} : idxAV h 1 (.sl (a :: .int K n :: xs) t) (.int k 1) = some (.iptr [.int K n] 0, h) := idxAV_sl (i := 1) (e := .int K n) rfl rfl
theorem idxAV_two {h : List AObj} {K k : IntKind} {n : Int} {a b : AV} {xs : List AV} {t : Tip} : idxAV h 1 (.sl (a :: b :: .int K n :: xs) t) (.int k 2) = some (.iptr [.int K n] 0, h) := idxAV_sl (i := 2) (e := .int K n) rfl rfl
theorem pure249_bare {o k : Nat} (ho : o = 1 ∨ o = 2 ∨ o = 6 ∨ o = 7 ∨ o = 8 ∨ o = 9 ∨ o = 10 ∨ o = 11 ∨ o = 12 ∨ o = 13 ∨ o = 14 ∨ o = 15 ∨ o = 18 ∨ o = 19 ∨ o = 20) : Pure Gam 249 [eNode (bare o k)] (.bool true) := by
 refine Pure.of rfl fn249 rfl rfl rfl rfl rfl fun D B clk T hB hT => ?_
 have e1 : decide ((o : Int) = 3) = false := by rw [decide_eq_false_iff_not]; omega
 have e2 : decide ((o : Int) = 4) = false := by rw [decide_eq_false_iff_not]; omega
 have e3 : decide ((o : Int) = 5) = false := by rw [decide_eq_false_iff_not]; omega
 have e4 : decide ((o : Int) = 16) = false := by rw [decide_eq_false_iff_not]; omega
 have e5 : decide ((o : Int) = 17) = false := by rw [decide_eq_false_iff_not]; omega
 have e6 : decide ((1 : Int) ≤ (o : Int)) = true := by rw [decide_eq_true_iff]; omega
 have e7 : decide ((o : Int) ≤ 20) = true := by rw [decide_eq_true_iff]; omega
 have e8 : decide (((0 : Nat) : Int) = 0) = true := rfl
 simp only [go_sem, Nat.reduceBEq, Nat.reduceAdd, ↓reduceIte, af249, hB, eNode, bare, nat, e1, e2, e3, e4, e5, e6, e7, e8, decide_true]
 rw [RV_bool]
 exact hT _
theorem pure249 {V : List Var} {n : Node} {ss : List Nat} {s : Nat} {ks : Term} (hn : NodeOk V n ss s ks) (hV : ∀ v ∈ V, v ∈ allVars) : Pure Gam 249 [eNode n] (.bool true) := by
 cases hn with
 | bool h => exact pure249_bare (by omega)
 | not => exact pure249_bare (by omega)
 | andor h => exact pure249_bare (by omega)
 | imp => exact pure249_bare (by omega)
 | ite h1 h2 => exact pure249_bare (by omega)
 | eq h1 h2 => exact pure249_bare (by omega)
 | cmp h hs => exact pure249_bare (by omega)
 | add h hs => exact pure249_bare (by omega)
 | mul hs hn => exact pure249_bare (by omega)
 | select => exact pure249_bare (by omega)
 | store => exact pure249_bare (by omega)
 | const => exact pure249_bare (by omega)
 | int h =>
   refine Pure.of rfl fn249 rfl rfl rfl rfl rfl fun D B clk T hB hT => ?_
   simp only [go_sem, Nat.reduceBEq, Nat.reduceAdd, ↓reduceIte, af249, hB, eNode, nat, Int.cast_ofNat_Int, Int.reduceEq, decide_true, decide_false, CK_pure (pure255_int h)]
   rw [RV_bool]
   exact hT _
 | real h =>
   refine Pure.of rfl fn249 rfl rfl rfl rfl rfl fun D B clk T hB hT => ?_
   simp only [go_sem, Nat.reduceBEq, Nat.reduceAdd, ↓reduceIte, af249, hB, eNode, nat, Int.cast_ofNat_Int, Int.reduceEq, decide_true, decide_false, CK_pure (pure255_real h)]
   rw [RV_bool]
   exact hT _
 | var h =>
   refine Pure.of rfl fn249 rfl rfl rfl rfl rfl fun D B clk T hB hT => ?_
   have hs := sort_var (hV _ h)
   have h1 := pure256 hs.1 hs.2
   rw [nat] at h1
   simp only [go_sem, Nat.reduceBEq, Nat.reduceAdd, ↓reduceIte, af249, hB, eNode, nat, Int.cast_ofNat_Int, Int.reduceEq, decide_true, decide_false, CK_pure h1, CK_pure (pure167 (hV _ h))]
   rw [RV_bool]
   exact hT _
 | @div o k _ ho h1 h5 =>
   refine Pure.of rfl fn249 rfl rfl rfl rfl rfl fun D B clk T hB hT => ?_
   have hp1 : Pure Gam 257 [.str (dec k)] (.bool true) := by
     have := pure257 (z := (k : Int)) (by rw [Int.natAbs_natCast, dec_lt (by omega)]; simp)
     rwa [itext, if_neg (by omega), Int.natAbs_natCast] at this
   have hp2 := pure258 h1 h5
   have e1 : decide ((o : Int) = 3) = false := by rw [decide_eq_false_iff_not]; omega
   have e2 : decide ((o : Int) = 4) = false := by rw [decide_eq_false_iff_not]; omega
   have e3 : decide ((o : Int) = 5) = false := by rw [decide_eq_false_iff_not]; omega
   have e8 : decide (((0 : Nat) : Int) = 0) = true := rfl
   rcases ho with rfl | rfl
   · simp only [go_sem, Nat.reduceBEq, Nat.reduceAdd, ↓reduceIte, af249, hB, eNode, nat, Int.cast_ofNat_Int, Int.reduceEq, Int.reduceLT, decide_true, decide_false, e8, CK_pure hp1, CK_pure hp2]
     rw [RV_bool]
     exact hT _
   · simp only [go_sem, Nat.reduceBEq, Nat.reduceAdd, ↓reduceIte, af249, hB, eNode, nat, Int.cast_ofNat_Int, Int.reduceEq, Int.reduceLT, decide_true, decide_false, e8, CK_pure hp1, CK_pure hp2]
     rw [RV_bool]
     exact hT _
theorem pure250 {V : List Var} {n : Node} {ss : List Nat} {s : Nat} {ks : Term} (hn : NodeOk V n ss s ks) : Pure Gam 250 [nat n.op, nat n.kids] (.bool true) := by
 refine Pure.of rfl fn250 rfl rfl rfl rfl rfl fun D B clk T hB hT => ?_
 have e0 : decide (((0 : Nat) : Int) = 0) = true := rfl
 cases hn with
 | bool h =>
   rcases h with rfl | rfl
   all_goals
     simp only [go_sem, Nat.reduceBEq, af250, nat, bare, Int.cast_ofNat_Int, Int.reduceEq, decide_true, decide_false]
     rw [RV_bool]
     exact hT _
 | int h =>
   simp only [go_sem, Nat.reduceBEq, af250, nat, Int.cast_ofNat_Int, Int.reduceEq, decide_true, decide_false]
   rw [RV_bool]
   exact hT _
 | real h =>
   simp only [go_sem, Nat.reduceBEq, af250, nat, Int.cast_ofNat_Int, Int.reduceEq, decide_true, decide_false]
   rw [RV_bool]
   exact hT _
 | var h =>
   simp only [go_sem, Nat.reduceBEq, af250, nat, Int.cast_ofNat_Int, Int.reduceEq, decide_true, decide_false]
   rw [RV_bool]
   exact hT _
 | andor h =>
   rcases h with rfl | rfl
   all_goals
     simp only [go_sem, Nat.reduceBEq, af250, nat, bare, Int.cast_ofNat_Int, Int.reduceEq, decide_true, decide_false]
     rw [RV_bool]
     exact hT _
 | cmp h hs =>
   rcases h with rfl | rfl
   all_goals
     simp only [go_sem, Nat.reduceBEq, af250, nat, bare, Int.cast_ofNat_Int, Int.reduceEq, decide_true, decide_false]
     rw [RV_bool]
     exact hT _
 | @add k _ _ h hs =>
   have e1 : decide ((1 : Int) ≤ (k : Int)) = true := by rw [decide_eq_true_iff]; omega
   simp only [go_sem, Nat.reduceBEq, af250, nat, bare, Int.cast_ofNat_Int, Int.reduceEq, decide_true, decide_false, e1]
   rw [RV_bool]
   exact hT _
 | div h h1 h5 =>
   rcases h with rfl | rfl
   all_goals
     simp only [go_sem, Nat.reduceBEq, af250, nat, Int.cast_ofNat_Int, Int.reduceEq, decide_true, decide_false]
     rw [RV_bool]
     exact hT _
 | _ =>
   simp only [go_sem, Nat.reduceBEq, af250, nat, bare, Int.cast_ofNat_Int, Int.reduceEq, decide_true, decide_false]
   rw [RV_bool]
   exact hT _
theorem ids_nats {l : List Nat} : idsL (l.map nat) = [] := idsL_map fun _ => rfl
theorem rep_eq {k s : Nat} : ∀ x ∈ List.replicate k s, x = s := fun _ hx => (List.mem_replicate.1 hx).2
theorem rep_zero {k s : Nat} {h : List AObj} {t : Tip} (hk : 1 ≤ k) : idxAV h 1 (.sl ((List.replicate k s).map nat) t) (.int .i64 0) = some (.iptr [.int .i64 (s : Int)] 0, h) := by
 obtain ⟨k, rfl⟩ : ∃ j, k = j + 1 := ⟨k - 1, by omega⟩
 exact idxAV_sl (i := 0) (e := nat s) rfl rfl
theorem slV_one {h : List AObj} {a : AV} {xs : List AV} {t : Tip} {k : IntKind} (ha : a.cells.length = 1) : ∃ u, slV h (some 1) (.sl (a :: xs) t) (some (.int k 1)) none none = some (.sl xs u, h) := by
 have hh : headLen 1 (a :: xs) = true := by simp [headLen, ha]
 refine ⟨if t = .nil then .nil else t, ?_⟩
 simp [slV, sliceVal, bound, hh]
theorem pure252 {V : List Var} {n : Node} {ss : List Nat} {s : Nat} {ks : Term} {t : Tip} (hn : NodeOk V n ss s ks) (hl : ss.length ≤ 2 ^ 20) : Pure Gam 252 [eNode n, .sl (ss.map nat) t] (.int .i64 (s : Int)) := by
 refine Pure.of rfl fn252 rfl rfl rfl (az := [eNode n, .sl (ss.map nat) .no]) (by simp [cvL, cv_node, AV.cv]) (by simp [idsL, ids_node, AV.ids, ids_nats]) fun D B clk T hB hT => ?_
 cases hn with
 | bool h =>
   have hp := pure261 (ss := []) (s := 1) (t := .no) (by simp) (by simp)
   rw [List.map_nil, nat, Int.cast_ofNat_Int] at hp
   rcases h with rfl | rfl
   all_goals
     simp only [go_sem, Nat.reduceBEq, Nat.reduceAdd, ↓reduceIte, af252, hB, eNode, nat, bare, Int.cast_ofNat_Int, Int.reduceEq, decide_true, decide_false, CK_pure hp, CK_pure pure260_true]
     rw [RV_int]
     exact hT _
 | int h =>
   simp only [go_sem, Nat.reduceBEq, Nat.reduceAdd, ↓reduceIte, af252, hB, eNode, nat, Int.cast_ofNat_Int, Int.reduceEq, decide_true, decide_false]
   rw [RV_int]
   exact hT _
 | real h =>
   simp only [go_sem, Nat.reduceBEq, Nat.reduceAdd, ↓reduceIte, af252, hB, eNode, nat, Int.cast_ofNat_Int, Int.reduceEq, decide_true, decide_false]
   rw [RV_int]
   exact hT _
 | var h =>
   simp only [go_sem, Nat.reduceBEq, Nat.reduceAdd, ↓reduceIte, af252, hB, eNode, nat, Int.cast_ofNat_Int, Int.reduceEq, decide_true, decide_false]
   rw [RV_int]
   exact hT _
 | not =>
   have hp := pure261 (ss := [1]) (s := 1) (t := .no) (by simp) (by simp)
   rw [List.map_cons, List.map_nil, nat, Int.cast_ofNat_Int] at hp
   simp only [go_sem, Nat.reduceBEq, Nat.reduceAdd, ↓reduceIte, af252, hB, eNode, nat, bare, Int.cast_ofNat_Int, Int.reduceEq, decide_true, decide_false, CK_pure hp, CK_pure pure260_true]
   rw [RV_int]
   exact hT _
 | @andor o k _ h =>
   have hp := pure261 (ss := List.replicate k 1) (s := 1) (t := .no) rep_eq hl
   rw [show nat 1 = .int .i64 1 from rfl] at hp
   rcases h with rfl | rfl
   all_goals
     simp only [go_sem, Nat.reduceBEq, Nat.reduceAdd, Nat.reduceLeDiff, Nat.reduceSub, reduceCtorEq, ↓reduceIte, af252, hB, eNode, nat, bare, Int.cast_ofNat_Int, Int.reduceEq, decide_true, decide_false, CK_pure hp, CK_pure pure260_true]
     rw [RV_int]
     exact hT _
 | imp =>
   have hp := pure261 (ss := [1, 1]) (s := 1) (t := .no) (by simp) (by simp)
   rw [List.map_cons, List.map_cons, List.map_nil, nat, Int.cast_ofNat_Int] at hp
   simp only [go_sem, Nat.reduceBEq, Nat.reduceAdd, ↓reduceIte, af252, hB, eNode, nat, bare, Int.cast_ofNat_Int, Int.reduceEq, decide_true, decide_false, CK_pure hp, CK_pure pure260_true]
   rw [RV_int]
   exact hT _
 | @ite s _ h1 h2 =>
   have e1 : decide ((s : Int) = (s : Int)) = true := by simp
   simp only [go_sem, Nat.reduceBEq, Nat.reduceAdd, ↓reduceIte, af252, hB, eNode, nat, bare, Int.cast_ofNat_Int, Int.reduceEq, decide_true, decide_false, idxAV_zero, idxAV_one, idxAV_two, CK_pure pure260_true]
   rw [RV_int]
   exact hT _
 | @eq s _ h1 h2 =>
   simp only [go_sem, Nat.reduceBEq, Nat.reduceAdd, ↓reduceIte, af252, hB, eNode, nat, bare, Int.cast_ofNat_Int, Int.reduceEq, decide_true, decide_false, idxAV_zero, idxAV_one, CK_pure pure260_true]
   rw [RV_int]
   exact hT _
 | @cmp o s _ h hs =>
   have hp := pure261 (ss := [s, s]) (s := s) (t := .no) (by simp) (by simp)
   have hp2 := pure262 hs
   rw [List.map_cons, List.map_cons, List.map_nil, nat] at hp
   rw [nat] at hp2
   rcases h with rfl | rfl
   all_goals
     simp only [go_sem, Nat.reduceBEq, Nat.reduceAdd, ↓reduceIte, af252, hB, eNode, nat, bare, Int.cast_ofNat_Int, Int.reduceEq, decide_true, decide_false, idxAV_zero, CK_pure hp, CK_pure hp2, CK_pure pure260_true]
     rw [RV_int]
     exact hT _
 | @add k s _ h hs =>
   have hp := pure261 (ss := List.replicate k s) (s := s) (t := .no) rep_eq hl
   have hp2 := pure262 hs
   have e1 : ∀ h', idxAV h' 1 (.sl ((List.replicate k s).map nat) .no) (.int .i64 0) = some (.iptr [.int .i64 (s : Int)] 0, h') := fun h' => rep_zero h
   rw [show nat s = .int .i64 (s : Int) from rfl] at hp hp2
   have hX : idsL ((List.replicate k s).map nat) = [] := ids_nats
   generalize (List.replicate k s).map nat = X at hp e1 hX
   simp only [go_sem, Nat.reduceBEq, Nat.reduceAdd, ↓reduceIte, af252, hB, K_draw, eNode, nat, bare, Int.cast_ofNat_Int, Int.reduceEq, decide_true, decide_false, e1, CK_pure hp, CK_pure hp2, CK_pure pure260_true]
   refine ⟨by simp [drawOk, apart, disjoint, callAt, footAt, AOp.isCall, hB, AV.ids, hX], ?_⟩
   rw [RV_int]
   exact hT _
 | @mul s m _ hs hm =>
   have hp := pure261 (ss := [s, s]) (s := s) (t := .no) (by simp) (by simp)
   have hp2 := pure262 hs
   rw [List.map_cons, List.map_cons, List.map_nil, nat] at hp
   rw [nat] at hp2
   simp only [go_sem, Nat.reduceBEq, Nat.reduceAdd, ↓reduceIte, af252, hB, K_draw, eNode, nat, bare, Int.cast_ofNat_Int, Int.reduceEq, decide_true, decide_false, idxAV_zero, CK_pure hp, CK_pure hp2, CK_pure pure260_true]
   refine ⟨by simp [drawOk, apart, disjoint, callAt, footAt, AOp.isCall, hB, AV.ids, idsL], ?_⟩
   rw [RV_int]
   exact hT _
 | div h h1 h5 =>
   rcases h with rfl | rfl
   all_goals
     simp only [go_sem, Nat.reduceBEq, Nat.reduceAdd, ↓reduceIte, af252, hB, eNode, nat, Int.cast_ofNat_Int, Int.reduceEq, decide_true, decide_false, idxAV_zero, CK_pure pure260_true]
     rw [RV_int]
     exact hT _
 | select =>
   simp only [go_sem, Nat.reduceBEq, Nat.reduceAdd, ↓reduceIte, af252, hB, eNode, nat, bare, Int.cast_ofNat_Int, Int.reduceEq, decide_true, decide_false, idxAV_zero, idxAV_one, CK_pure pure260_true]
   rw [RV_int]
   exact hT _
 | store =>
   obtain ⟨u, hu⟩ : ∃ u, ∀ h : List AObj, slV h (some 1) (.sl [.int .i64 4, .int .i64 2, .int .i64 2] .no) (some (.int .i64 1)) none none = some (.sl [.int .i64 2, .int .i64 2] u, h) := ⟨.no, fun h => by simp [slV, sliceVal, bound, headLen, AV.cells]⟩
   have hp := pure261 (ss := [2, 2]) (s := 2) (t := u) (by simp) (by simp)
   rw [List.map_cons, List.map_cons, List.map_nil, nat, Int.cast_ofNat_Int] at hp
   simp only [go_sem, Nat.reduceBEq, Nat.reduceAdd, ↓reduceIte, af252, hB, eNode, nat, bare, Int.cast_ofNat_Int, Int.reduceEq, decide_true, decide_false, idxAV_zero, hu, CK_pure hp, CK_pure pure260_true]
   rw [RV_int]
   exact hT _
 | const =>
   simp only [go_sem, Nat.reduceBEq, Nat.reduceAdd, ↓reduceIte, af252, hB, eNode, nat, bare, Int.cast_ofNat_Int, Int.reduceEq, decide_true, decide_false, idxAV_zero, CK_pure pure260_true]
   rw [RV_int]
   exact hT _
end Go.Proofs.YtbeooboebfbchaaGreatDoor.Am
