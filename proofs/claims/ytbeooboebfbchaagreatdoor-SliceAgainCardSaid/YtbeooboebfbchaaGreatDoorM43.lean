/- Walking: a term is looked at from its last node on: what holds between the nodes. Walking: a term is looked at from its last node on: a node. Walking: calls that answer a pointer to something new. Walking: a term is looked at. Walking: the names of a term. -/
import Derived.Test.YtbeooboebfbchaaGreatDoorM42
set_option linter.unusedVariables false
set_option linter.unusedSimpArgs false
namespace Go.Proofs.YtbeooboebfbchaaGreatDoor.Am
open Go
set_option maxRecDepth 100000
structure Tr where
 s : Nat
 len : Nat
 dep : Nat
def lens (F : List Tr) : Nat := (F.map (·.len)).sum
theorem lens_nil : lens [] = 0 := rfl
theorem lens_cons {f : Tr} {F : List Tr} : lens (f :: F) = f.len + lens F := by simp [lens]
theorem lens_append {F G : List Tr} : lens (F ++ G) = lens F + lens G := by simp [lens]
theorem lens_take {F : List Tr} {j : Nat} (hj : j < F.length) : lens (F.take (j + 1)) = lens (F.take j) + F[j].len := by
 rw [List.take_succ_eq_append_getElem hj, lens_append]
 simp [lens]
def starts (i : Nat) : List Tr → List Nat
 | [] => []
 | f :: F => i :: starts (i + f.len) F
theorem starts_len {i : Nat} {F : List Tr} : (starts i F).length = F.length := by
 induction F generalizing i with
 | nil => rfl
 | cons f F ih => simp [starts, ih]
theorem starts_append {i : Nat} {F G : List Tr} : starts i (F ++ G) = starts i F ++ starts (i + lens F) G := by
 induction F generalizing i with
 | nil => rfl
 | cons f F ih => simp only [List.cons_append, starts, ih, lens_cons, Nat.add_assoc]
theorem starts_get {i j : Nat} {F : List Tr} (hj : j < F.length) : (starts i F)[j]? = some (i + lens (F.take j)) := by
 induction F generalizing i j with
 | nil => simp at hj
 | cons f F ih =>
   cases j with
   | zero => simp [starts, lens]
   | succ j =>
     simp only [starts, List.getElem?_cons_succ, List.take_succ_cons, lens_cons]
     rw [ih (by simpa using hj), Nat.add_assoc]
structure Pt where
 sort : Nat
 depth : Nat
 fin : Nat
def ePt (p : Pt) : AV := .agg [.int .i64 (p.sort : Int), .int .i64 (p.depth : Int), .int .i64 (p.fin : Int)]
def PartsOk (P : List Pt) (i : Nat) (F : List Tr) : Prop := ∀ j f, F[j]? = some f → P[i + lens (F.take j)]? = some ⟨f.s, f.dep, i + lens (F.take j) + f.len⟩
theorem PartsOk.nil {P : List Pt} {i : Nat} : PartsOk P i [] := fun j f h => by simp at h
theorem PartsOk.node {P : List Pt} {i : Nat} {K G : List Tr} {s dep : Nat} (h : PartsOk P (i + 1) (K ++ G)) (hi : i < P.length) : PartsOk (P.set i ⟨s, dep, i + (1 + lens K)⟩) i (⟨s, 1 + lens K, dep⟩ :: G) := by
 intro j f hj
 cases j with
 | zero =>
   simp at hj
   subst hj
   simp [lens, hi]
 | succ j =>
   simp only [List.getElem?_cons_succ] at hj
   have := h (K.length + j) f (by rw [List.getElem?_append_right (by omega)]; simpa using hj)
   rw [List.take_append, List.take_of_length_le (by omega), lens_append, show K.length + j - K.length = j by omega] at this
   simp only [List.take_succ_cons, lens_cons]
   rw [List.getElem?_set_ne (by omega)]
   rw [show i + (1 + lens K + lens (G.take j)) = i + 1 + (lens K + lens (G.take j)) by omega]
   exact this
theorem NodeOk.pos {V : List Var} {n : Node} {ss : List Nat} {s : Nat} {ks : Term} (hn : NodeOk V n ss s ks) (hV : ∀ v ∈ V, v ∈ allVars) : 1 ≤ s ∧ s ≤ 4 := by
 cases hn with
 | var h => exact sort_var (hV _ h)
 | cmp h hs => omega
 | add h hs => omega
 | mul hs hn => omega
 | ite h1 h2 => omega
 | eq h1 h2 => omega
 | _ => omega
theorem NodeOk.mul_num {V : List Var} {n : Node} {ss : List Nat} {s : Nat} {ks : Term} (hn : NodeOk V n ss s ks) (h : n.op = 15) : ∃ m r, ks = m :: r ∧ m.op = 3 := by
 cases hn with
 | mul hs hm => exact ⟨_, _, rfl, hm⟩
 | bool h' => exact absurd h (by simp [bare]; omega)
 | andor h' => exact absurd h (by simp [bare]; omega)
 | cmp h' _ => exact absurd h (by simp [bare]; omega)
 | div h' _ _ => exact absurd h (by simp; omega)
 | _ => simp [bare] at h
def RootsOk (B i : Nat) (F : List Tr) (r : AV) (o : AObj) : Prop := (F = [] ∧ r = .sl [] .nil) ∨ (F ≠ [] ∧ ∃ g, r = .ob (B + 9) g 0 F.length ∧ o = .blk g ((starts i F).reverse.map nat) true true 0)
def lookH (D : List AObj) (B : Nat) (t : Term) (gP gV g2 : Nat) (P : List Pt) (o3 o4 o5 o6 o7 o8 o9 : AObj) : List AObj :=
 D ++ [.blk gP (P.map ePt) true false 0, .blk gV [.agg [eTerm t, .ob (B + 0) gP 0 t.length]] false false 0, .blk g2 [.ptr (B + 1) gV 0 0] false false 0, o3, o4, o5, o6, o7, o8, o9]
def LookSt (D : List AObj) (B : Nat) (t : Term) (gP gV g2 : Nat) (i : Nat) (F : List Tr) (q : St) : Prop :=
 ∃ P o3 o4 o5 o6 o7 o8 o9, P.length = t.length ∧ PartsOk P i F ∧ q.ts 0 = eTerm t ∧ q.ts 4 = .ptr (B + 2) g2 0 0 ∧ q.ts 6 = .int .i64 ((i : Int) - 1) ∧ RootsOk B i F (q.ts 5) o9 ∧ q.h = lookH D B t gP gV g2 P o3 o4 o5 o6 o7 o8 o9
theorem roots_facts {D : List AObj} {B : Nat} {t : Term} {gP gV g2 i : Nat} {K G : List Tr} {r : AV} {o : AObj} (hB : D.length = B) (hr : RootsOk B (i + 1) (K ++ G) r o) (hl : (K ++ G).length ≤ 2 ^ 20) :
   (∀ h, lenV h .sl r = some (.int .i64 ((K ++ G).length : Int), h)) ∧
   ∃ kv rv : AV, (∀ P o3 o4 o5 o6 o7 o8, slV (lookH D B t gP gV g2 P o3 o4 o5 o6 o7 o8 o) (some 1) r (some (.int .i64 (G.length : Int))) none none = some (kv, lookH D B t gP gV g2 P o3 o4 o5 o6 o7 o8 o)) ∧
     (∀ P o3 o4 o5 o6 o7 o8, slV (lookH D B t gP gV g2 P o3 o4 o5 o6 o7 o8 o) (some 1) r none (some (.int .i64 (G.length : Int))) none = some (rv, lookH D B t gP gV g2 P o3 o4 o5 o6 o7 o8 o)) ∧
     rowLen kv = some K.length ∧
     (∀ j P o3 o4 o5 o6 o7 o8, j < K.length → elemAt (lookH D B t gP gV g2 P o3 o4 o5 o6 o7 o8 o) kv (K.length - 1 - j) = some (nat (i + 1 + lens (K.take j)))) ∧
     (∀ (f : Tr) P o3 o4 o5 o6 o7 g8 gen, f.len = 1 + lens K → appendVal (lookH D B t gP gV g2 P o3 o4 o5 o6 o7 (.blk g8 [nat i] true false 0) o) (B + 9) gen 1 8 true rv (.ob (B + 8) g8 0 1) = some (.ob (B + 9) gen 0 (G.length + 1), lookH D B t gP gV g2 P o3 o4 o5 o6 o7 (.blk g8 [nat i] true false 0) (.blk gen ((starts i (f :: G)).reverse.map nat) true true 0))) := by
 have hsrc : ∀ P o3 o4 o5 o6 o7 g8, srcOf (lookH D B t gP gV g2 P o3 o4 o5 o6 o7 (.blk g8 [nat i] true false 0) o) (.ob (B + 8) g8 0 1) = some [nat i] := fun P o3 o4 o5 o6 o7 g8 =>
   row_src (k := 8) (es := [nat i]) (w := false) hB rfl rfl
 rcases hr with ⟨hF, rfl⟩ | ⟨hF, g, rfl, rfl⟩
 · have hK : K = [] := (List.append_eq_nil_iff.1 hF).1
   have hG : G = [] := (List.append_eq_nil_iff.1 hF).2
   subst hK; subst hG
   refine ⟨fun h => rfl, .sl [] .nil, .sl [] .nil, fun _ _ _ _ _ _ _ => rfl, fun _ _ _ _ _ _ _ => rfl, rfl, fun j _ _ _ _ _ _ _ hj => by simp at hj, fun f P o3 o4 o5 o6 o7 g8 gen hf => ?_⟩
   unfold appendVal
   rw [hsrc]
   simp [allCells, nat, AV.def?, AV.cells, AV.one, roomBound, lookH, loc_set hB, starts]
 · have hN : (K ++ G).length = K.length + G.length := List.length_append
   have hgr : (lookH D B t gP gV g2 [] .dead .dead .dead .dead .dead .dead (.blk g ((starts (i + 1) (K ++ G)).reverse.map nat) true true 0)).length = B + 10 := by simp [lookH, hB]
   have hblk : ∀ P o3 o4 o5 o6 o7 o8, blkAt (lookH D B t gP gV g2 P o3 o4 o5 o6 o7 o8 (.blk g ((starts (i + 1) (K ++ G)).reverse.map nat) true true 0)) (B + 9) g = some ((starts (i + 1) (K ++ G)).reverse.map nat, true, true, 0) := fun P o3 o4 o5 o6 o7 o8 => by
     unfold lookH
     rw [loc_blk hB]
     simp [blkAt]
   have hlen : ((starts (i + 1) (K ++ G)).reverse.map nat).length = (K ++ G).length := by simp [starts_len]
   have hhead : headLen 1 ((starts (i + 1) (K ++ G)).reverse.map nat) = true := by
     cases (starts (i + 1) (K ++ G)).reverse <;> rfl
   have hall : allCells 1 ((starts (i + 1) (K ++ G)).reverse.map nat) = true := cells_nats
   refine ⟨fun h => rfl, .ob (B + 9) g G.length K.length, .ob (B + 9) g 0 G.length, fun P o3 o4 o5 o6 o7 o8 => ?_, fun P o3 o4 o5 o6 o7 o8 => ?_, ?_, fun j P o3 o4 o5 o6 o7 o8 hj => ?_, fun f P o3 o4 o5 o6 o7 g8 gen hf => ?_⟩
   · simp only [slV, sliceVal, hblk, bound, Int.natCast_nonneg, if_true, Int.toNat_natCast]
     rw [if_pos ⟨by omega, hhead, by omega, by omega⟩, Option.map_some]
     rw [Nat.zero_add, show (K ++ G).length - G.length = K.length by omega]
   · simp only [slV, sliceVal, hblk, bound, Int.natCast_nonneg, if_true, Int.toNat_natCast]
     rw [if_pos ⟨by omega, hhead, by omega, by omega⟩, Option.map_some]
     rfl
   · simp only [rowLen]
     rw [if_pos (by omega)]
   · unfold elemAt
     simp only [srcOf, rowOf, hblk]
     rw [if_pos (by omega)]
     have h1 : (((List.map nat (starts (i + 1) (K ++ G)).reverse).drop G.length).take K.length)[K.length - 1 - j]? = some (nat (i + 1 + lens (K.take j))) := by
       rw [List.getElem?_take_of_lt (by omega), List.getElem?_drop, List.getElem?_map, List.getElem?_reverse (by rw [starts_len]; omega), starts_len, show (K ++ G).length - 1 - (G.length + (K.length - 1 - j)) = j by omega, starts_append, List.getElem?_append_left (by rw [starts_len]; omega), starts_get hj]
       rfl
     simp only [h1]
     rfl
   · have hGK : (List.map nat (starts (i + 1) (K ++ G)).reverse).take G.length = (starts (i + 1 + lens K) G).reverse.map nat := by
       rw [← List.map_take, starts_append, List.reverse_append, List.take_left' (by simp [starts_len])]
     have hnew : (starts i (f :: G)).reverse.map nat = (starts (i + 1 + lens K) G).reverse.map nat ++ [nat i] := by
       rw [starts, hf, List.reverse_cons, List.map_append, show i + (1 + lens K) = i + 1 + lens K by omega]
       rfl
     unfold appendVal
     rw [hsrc]
     have hpos : 0 < (K ++ G).length := List.length_pos_iff.2 hF
     have hgt : ¬ (G.length + 1) * (8 + 1) > roomBound := by unfold roomBound; omega
     have ha1 : allCells 1 [nat i] = true := rfl
     simp only [ha1, hblk, hall, List.length_singleton, decide_eq_true_eq, hgt, Bool.not_true, Bool.false_eq_true, if_false, beq_self_eq_true, decide_false, Bool.or_self, List.isEmpty_cons, if_true, Nat.zero_le, hlen, true_and]
     rw [if_pos ⟨by omega, hpos⟩, hGK, ← hnew]
     congr 2
     simp only [lookH, loc_set hB, List.set_cons_succ, List.set_cons_zero]
section
variable {h : List AObj} {base g k : Nat} {ts : Tmps} {z : AV} {dst : Option Nat} {os : List AOper} {clk : Nat} {ks : List Kf} {Q : Post}
def bwV (h : List AObj) (f : Nat) (v : AV) : Option (AV × List AObj) := if (rowLen v).isSome then some (.bwd f v, h) else none
theorem bwV_ok {f n : Nat} {v : AV} (hr : rowLen v = some n) : bwV h f v = some (.bwd f v, h) := by simp [bwV, hr]
theorem O_backward {f : Nat} {x : AOpd} : O Gam base .plain g (⟨dst, .backward f x, none⟩ :: os) ⟨ts, h, clk⟩ ks Q = PP Gam base (bwV h f (x.ev ts)) dst g os ts clk ks Q := by
 rw [O_pp rfl]; rfl
def bsMV (h : List AObj) (s g : Nat) (z : AV) (v : AV) : Option (AV × List AObj) :=
 if !z.def? then none else match convL h [v] with
   | some vs => (setParts z.cells.length [z] [0] vs).map fun es => (.ob s g 0 1, (freezeAll h (obsL [v])).set s (.blk g es true false 0))
   | none => none
theorem bsMV_int {s : Nat} {K J : IntKind} {a b : Int} : bsMV h s g (.int K a) (.int J b) = some (.ob s g 0 1, h.set s (.blk g [.int J b] true false 0)) := (rfl)
theorem O_bsM {x : AOpd} : O Gam base .plain g (⟨dst, .buildSlice k true z 1 [(0, x)], none⟩ :: os) ⟨ts, h, clk⟩ ks Q = PP Gam base (bsMV h (base + k) g z (x.ev ts)) dst g os ts clk ks Q := by
 rw [O_pp rfl]
 congr 1
end
attribute [go_sem] O_backward O_bsM bsMV_int
theorem part_idx {D : List AObj} {B gP n i : Nat} {P : List Pt} {L : List AObj} {p : Pt} (hB : D.length = B) (hi : P[i]? = some p) (hn : P.length = n) : idxAV (D ++ .blk gP (P.map ePt) true false 0 :: L) 3 (.ob (B + 0) gP 0 n) (.int .i64 (i : Int)) = some (.ptr (B + 0) gP i 0, D ++ .blk gP (P.map ePt) true false 0 :: L) := by
 have hb : blkAt (D ++ .blk gP (P.map ePt) true false 0 :: L) (B + 0) gP = some (P.map ePt, true, false, 0) := by rw [loc_blk hB]; simp [blkAt]
 have hlt : i < n := by
   rw [List.getElem?_eq_some_iff] at hi
   have := hi.1
   omega
 have h1 : (P.map ePt)[0 + i]? = some (ePt p) := by rw [Nat.zero_add, List.getElem?_map, hi]; rfl
 simp only [idxAV, Int.natCast_nonneg, if_true, hb, Int.toNat_natCast, h1]
 rw [if_pos ⟨hlt, rfl⟩, Nat.zero_add]
theorem part_get {P : List Pt} {i : Nat} {p : Pt} (hi : P[i]? = some p) : (P.map ePt)[i]? = some (.agg [.int .i64 (p.sort : Int), .int .i64 (p.depth : Int), .int .i64 (p.fin : Int)]) := by rw [List.getElem?_map, hi]; rfl
theorem part_set {P : List Pt} {i : Nat} {p : Pt} : (P.map ePt).set i (.agg [.int .i64 (p.sort : Int), .int .i64 (p.depth : Int), .int .i64 (p.fin : Int)]) = (P.set i p).map ePt := List.map_set.symm
theorem node_idx {t : Term} {i : Nat} {n : Node} {h : List AObj} {u : Tip} {k : IntKind} (hi : t[i]? = some n) : idxAV h 5 (.sl (t.map eNode) u) (.int k (i : Int)) = some (.iptr [.int .i64 (n.op : Int), .int .i64 (n.sort : Int), .str n.name, .str n.num, .int .i64 (n.kids : Int)] 0, h) := by
 have hlt : i < t.length := by
   rw [List.getElem?_eq_some_iff] at hi
   exact hi.1
 have h1 : t[i] = n := by
   rw [List.getElem?_eq_some_iff] at hi
   exact hi.2
 rw [idx_map (f := eNode) hlt (cs := [.int .i64 (n.op : Int), .int .i64 (n.sort : Int), .str n.name, .str n.num, .int .i64 (n.kids : Int)]) (esz := 5) (by rw [h1]; rfl) rfl]
def kidsA : ACode := (.region 1 [⟨(some 12), .move (.tmp 66), none⟩] [])
def kidsB : ACode := (.block 3 (.seq (.region 12 [⟨(some 67), .load none (.tmp 10), none⟩, ⟨(some 68), .load none (.tmp 4), none⟩, ⟨(some 69), .nilCheck (.tmp 68), none⟩, ⟨(some 70), .fieldAddr (.tmp 69) 1, none⟩, ⟨(some 71), .load none (.tmp 70), none⟩, ⟨(some 72), .move (.tmp 12), none⟩, ⟨(some 73), .indexAddr none 3 (.tmp 71) (.tmp 72), none⟩, ⟨(some 74), .fieldAddr (.tmp 73) 0, none⟩, ⟨(some 75), .load none (.tmp 74), none⟩, ⟨(some 76), .buildSlice 6 false (.int .i64 0) 1 [(0, (.tmp 75))], none⟩, ⟨(some 77), .append 7 1 8 false (.tmp 67) (.tmp 76), none⟩, ⟨none, .store 1 (.tmp 10) (.tmp 77), none⟩] [(0, 9)]) (.seq (.region 14 [⟨(some 78), .fieldAddr (.tmp 9) 1, none⟩, ⟨(some 79), .load none (.tmp 78), none⟩, ⟨(some 80), .load none (.tmp 4), none⟩, ⟨(some 81), .nilCheck (.tmp 80), none⟩, ⟨(some 82), .fieldAddr (.tmp 81) 1, none⟩, ⟨(some 83), .load none (.tmp 82), none⟩, ⟨(some 84), .move (.tmp 12), none⟩, ⟨(some 85), .indexAddr none 3 (.tmp 83) (.tmp 84), none⟩, ⟨(some 86), .fieldAddr (.tmp 85) 1, none⟩, ⟨(some 87), .load none (.tmp 86), none⟩, ⟨(some 88), .binOp .add (.one .int) (.tmp 87) (.const (.int .i64 1)), none⟩, ⟨(some 89), .minmax true (.tmp 79) (.tmp 88), none⟩, ⟨(some 90), .fieldAddr (.tmp 9) 1, none⟩, ⟨none, .store 1 (.tmp 90) (.tmp 89), none⟩] []) (.region 10 [⟨(some 91), .load none (.tmp 4), none⟩, ⟨(some 92), .nilCheck (.tmp 91), none⟩, ⟨(some 93), .fieldAddr (.tmp 92) 1, none⟩, ⟨(some 94), .load none (.tmp 93), none⟩, ⟨(some 95), .move (.tmp 12), none⟩, ⟨(some 96), .indexAddr none 3 (.tmp 94) (.tmp 95), none⟩, ⟨(some 97), .fieldAddr (.tmp 96) 2, none⟩, ⟨(some 98), .load none (.tmp 97), none⟩, ⟨(some 99), .fieldAddr (.tmp 9) 2, none⟩, ⟨none, .store 1 (.tmp 99) (.tmp 98), none⟩] []))))
theorem take_map_s {Kk : List Tr} {j : Nat} (hj : j < Kk.length) : ((Kk.take (j + 1)).map (·.s)).map nat = ((Kk.take j).map (·.s)).map nat ++ [.int .i64 (Kk[j].s : Int)] := by
 rw [List.take_succ_eq_append_getElem hj, List.map_append, List.map_append]
 rfl
theorem look_kids {D : List AObj} {B : Nat} {t : Term} {gP gV g2 g3 g4 g5 i d clk : Nat} {N : AV} {P : List Pt} {Kk G : List Tr} {kv : AV} {o6 o7 o8 o9 : AObj} {ts : Tmps} {ks : List Kf} {Q : Post} (hB : D.length = B) (hPl : P.length = t.length) (hPo : PartsOk P (i + 1) (Kk ++ G)) (hKd : ∀ f ∈ Kk, f.dep ≤ d) (hd : d ≤ 1000) (hKl : Kk.length ≤ 2 ^ 20)
   (hrow : rowLen kv = some Kk.length) (helem : ∀ j (P : List Pt) o3 o4 o5 o6 o7 o8, j < Kk.length → elemAt (D ++ [.blk gP (P.map ePt) true false 0, .blk gV [.agg [eTerm t, .ob (B + 0) gP 0 t.length]] false false 0, .blk g2 [.ptr (B + 1) gV 0 0] false false 0, o3, o4, o5, o6, o7, o8, o9]) kv (Kk.length - 1 - j) = some (nat (i + 1 + lens (Kk.take j))))
   (h4 : ts 4 = .ptr (B + 2) g2 0 0) (h9 : ts 9 = .ptr (B + 4) g4 0 0) (h10 : ts 10 = .ptr (B + 5) g5 0 0) (h64 : ts 64 = .bwd 259 kv)
   (hQ : ∀ (dep : Nat) (u : Tip) (o6 o7 : AObj) (clk' : Nat), 1 ≤ dep → dep ≤ d + 1 → K Gam B .skip ks ⟨ts, D ++ [.blk gP (P.map ePt) true false 0, .blk gV [.agg [eTerm t, .ob (B + 0) gP 0 t.length]] false false 0, .blk g2 [.ptr (B + 1) gV 0 0] false false 0, .blk g3 [N] false false 0, .blk g4 [.agg [.int .i64 0, .int .i64 (dep : Int), .int .i64 ((i + 1 + lens Kk : Nat) : Int)]] false false 0, .blk g5 [.sl ((Kk.map (·.s)).map nat) u] false false 0, o6, o7, o8, o9], clk'⟩ Q) :
   K Gam B (.rangeB (.tmp 64) 65 66 kidsA kidsB) ks ⟨ts, D ++ [.blk gP (P.map ePt) true false 0, .blk gV [.agg [eTerm t, .ob (B + 0) gP 0 t.length]] false false 0, .blk g2 [.ptr (B + 1) gV 0 0] false false 0, .blk g3 [N] false false 0, .blk g4 [.agg [.int .i64 0, .int .i64 1, .int .i64 ((i + 1 : Nat) : Int)]] false false 0, .blk g5 [.sl [] .nil] false false 0, o6, o7, o8, o9], clk⟩ Q := by
 refine K_rangeB (f := 259) (n := Kk.length) (v := kv) (by simpa [AOpd.ev] using h64) hrow rfl (fun m h _ => ∃ (dep : Nat) (u : Tip) (o6 o7 : AObj), 1 ≤ dep ∧ dep ≤ d + 1 ∧ h = D ++ [.blk gP (P.map ePt) true false 0, .blk gV [.agg [eTerm t, .ob (B + 0) gP 0 t.length]] false false 0, .blk g2 [.ptr (B + 1) gV 0 0] false false 0, .blk g3 [N] false false 0, .blk g4 [.agg [.int .i64 0, .int .i64 (dep : Int), .int .i64 ((i + 1 + lens (Kk.take (Kk.length - m)) : Nat) : Int)]] false false 0, .blk g5 [.sl (((Kk.take (Kk.length - m)).map (·.s)).map nat) u] false false 0, o6, o7, o8, o9] ∧ TipK B 7 o7 u 1) ?_ ?_ ?_
 · refine ⟨1, .nil, o6, o7, Nat.le_refl _, by omega, ?_, .inl rfl⟩
   rw [Nat.sub_self, List.take_zero]
   rfl
 · rintro m h c Pq hm ⟨dep, u, o6, o7, hd1, hd2, rfl, hu⟩ hfin
   have hj : Kk.length - (m + 1) < Kk.length := by omega
   have hjm : Kk.length - m = Kk.length - (m + 1) + 1 := by omega
   have hel := helem (Kk.length - (m + 1)) P (.blk g3 [N] false false 0) (.blk g4 [.agg [.int .i64 0, .int .i64 (dep : Int), .int .i64 ((i + 1 + lens (Kk.take (Kk.length - (m + 1))) : Nat) : Int)]] false false 0) (.blk g5 [.sl (((Kk.take (Kk.length - (m + 1))).map (·.s)).map nat) u] false false 0) o6 o7 o8 hj
   rw [show Kk.length - 1 - (Kk.length - (m + 1)) = m by omega] at hel
   refine ⟨_, hel, ?_⟩
   have hpo := hPo (Kk.length - (m + 1)) Kk[Kk.length - (m + 1)] (by rw [List.getElem?_append_left hj]; simp [hj])
   have htk : (Kk ++ G).take (Kk.length - (m + 1)) = Kk.take (Kk.length - (m + 1)) := List.take_append_of_le_length (by omega)
   rw [htk] at hpo
   have hfd := hKd _ (List.getElem_mem hj)
   have hls := lens_take hj
   have hss := take_map_s hj
   rw [← hjm] at hls hss
   generalize Kk[Kk.length - (m + 1)] = f at hpo hfd hls hss
   generalize hst : i + 1 + lens (Kk.take (Kk.length - (m + 1))) = st at hpo
   have hget := part_get hpo
   dsimp only at hget
   have hix : ∀ L, idxAV (D ++ .blk gP (P.map ePt) true false 0 :: L) 3 (.ob (B + 0) gP 0 t.length) (.int .i64 (st : Int)) = some (.ptr (B + 0) gP st 0, D ++ .blk gP (P.map ePt) true false 0 :: L) := fun L => part_idx hB hpo hPl
   have e1 : IntKind.i64.wrap ((f.dep : Int) + 1) = ((f.dep + 1 : Nat) : Int) := wrap_i64 (by omega) (by omega)
   have e2 : (if ((f.dep + 1 : Nat) : Int) > (dep : Int) then ((f.dep + 1 : Nat) : Int) else (dep : Int)) = ((max dep (f.dep + 1) : Nat) : Int) := by split <;> omega
   simp only [go_sem, Nat.reduceBEq, Nat.reduceAdd, Nat.reduceLeDiff, Nat.reduceSub, reduceCtorEq, ↓reduceIte, kidsA, kidsB, K_draw, h4, h9, h10, hB, nat, hix, hget]
   rw [show [AV.int .i64 (f.s : Int)] = [f.s].map nat from rfl, append_loc hB rfl hu cells_nats cells_nats (by simp only [List.length_map, List.length_singleton, List.length_take]; omega)]
   have hst2 : st + f.len = i + 1 + lens (Kk.take (Kk.length - m)) := by omega
   simp only [go_sem, Nat.reduceBEq, Nat.reduceAdd, Nat.reduceLeDiff, Nat.reduceSub, reduceCtorEq, ↓reduceIte, h4, h9, h10, hB, nat, hix, hget, e1, e2, ← hss, hst2]
   exact ⟨by simp [drawOk, apart, disjoint, callAt, footAt, AOp.isCall, hB], hfin _ ⟨max dep (f.dep + 1), _, _, _, by omega, by omega, rfl, .inr (.inr ⟨_, rfl, rfl⟩)⟩⟩
 · rintro h c ⟨dep, u, o6, o7, hd1, hd2, rfl, hu⟩
   rw [Nat.sub_zero, List.take_length]
   exact hQ dep u o6 o7 c hd1 hd2
theorem part_store {D L : List AObj} {B gP i : Nat} {P : List Pt} {p q : Pt} (hB : D.length = B) (hi : P[i]? = some q) : storeV (D ++ .blk gP (P.map ePt) true false 0 :: L) 3 (.agg [.int .i64 (p.sort : Int), .int .i64 (p.depth : Int), .int .i64 (p.fin : Int)]) (.ptr (B + 0) gP i 0) = some (.undef, D ++ .blk gP ((P.set i p).map ePt) true false 0 :: L) := by
 have hb : blkAt (D ++ .blk gP (P.map ePt) true false 0 :: L) (B + 0) gP = some (P.map ePt, true, false, 0) := by rw [loc_blk hB]; simp [blkAt]
 have hp : ∀ h : List AObj, pub h (.agg [.int .i64 (p.sort : Int), .int .i64 (p.depth : Int), .int .i64 (p.fin : Int)]) = some (.agg [.int .i64 (p.sort : Int), .int .i64 (p.depth : Int), .int .i64 (p.fin : Int)], h) := fun h => rfl
 have hg : (P.map ePt)[i]? = some (ePt q) := by rw [List.getElem?_map, hi]; rfl
 rw [storeV_ptr, hb]
 simp only [hg, if_true, hp]
 rw [if_pos ⟨rfl, rfl, rfl, fun _ => ⟨Nat.zero_le _, rfl⟩⟩]
 have : splice (ePt q).cells 0 (AV.agg [.int .i64 (p.sort : Int), .int .i64 (p.depth : Int), .int .i64 (p.fin : Int)]).cells = some [.int .i64 (p.sort : Int), .int .i64 (p.depth : Int), .int .i64 (p.fin : Int)] := rfl
 rw [this, Option.map_some, loc_set hB, List.map_set]
 rfl
theorem look_node {D : List AObj} {B : Nat} {t : Term} {gP gV g2 : Nat} {V : List Var} {n : Node} {ss : List Nat} {s d : Nat} {ksT pre post : Term} {Kk G : List Tr} {st : St} {ks : List Kf} {Q : Post} (hB : D.length = B) (hn : NodeOk V n ss s ksT) (hV : ∀ v ∈ V, v ∈ allVars) (hk : n.kids = ss.length) (ht : t = pre ++ n :: (ksT ++ post)) (hKs : Kk.map (·.s) = ss) (hKd : ∀ f ∈ Kk, f.dep ≤ d) (hd : d ≤ 1000) (hN : (Kk ++ G).length ≤ 2 ^ 20) (htl : t.length ≤ 2 ^ 20)
   (hst : LookSt D B t gP gV g2 (pre.length + 1) (Kk ++ G) st)
   (hQ : ∀ st' dep, dep ≤ d + 1 → LookSt D B t gP gV g2 pre.length (⟨s, 1 + lens Kk, dep⟩ :: G) st' → K Gam B (.loop c243_0) ks st' Q) : K Gam B (.loop c243_0) ks st Q := by
 obtain ⟨ts, h, clk⟩ := st
 obtain ⟨P, o3, o4, o5, o6, o7, o8, o9, hPl, hPo, h0, h4, h6, hr, rfl⟩ := hst
 dsimp only at h0 h4 h6 hr
 generalize hip : pre.length = i at *
 have hKlen : Kk.length = n.kids := by rw [hk, ← hKs, List.length_map]
 have hNl : (Kk ++ G).length = n.kids + G.length := by rw [List.length_append, hKlen]
 have hss : ss.length ≤ 2 ^ 20 := by omega
 have hti : t[i]? = some n := by
   rw [ht, List.getElem?_append_right (by omega), show i - pre.length = 0 by omega]
   rfl
 have hilt : i < t.length := by
   rw [List.getElem?_eq_some_iff] at hti
   exact hti.1
 obtain ⟨hlen, kv, rv, hkv, hrv, hrow, helem, happ⟩ := roots_facts (t := t) (gP := gP) (gV := gV) (g2 := g2) hB hr hN
 simp only [lookH] at hkv hrv helem happ ⊢
 generalize h5 : ts 5 = r5 at *
 have e0 : ((i + 1 : Nat) : Int) - 1 = (i : Int) := by omega
 rw [e0] at h6
 have e1 : decide ((0 : Int) ≤ (i : Int)) = true := by rw [decide_eq_true_iff]; omega
 have e2 : decide ((n.kids : Int) < 0) = false := by rw [decide_eq_false_iff_not]; omega
 have e3 : decide (((Kk ++ G).length : Int) < (n.kids : Int)) = false := by rw [decide_eq_false_iff_not]; omega
 have e4 : IntKind.i64.wrap (((Kk ++ G).length : Int) - (n.kids : Int)) = (G.length : Int) := by rw [wrap_i64 (by omega) (by omega)]; omega
 have e5 : IntKind.i64.wrap ((i : Int) + 1) = ((i + 1 : Nat) : Int) := wrap_i64 (by omega) (by omega)
 have e6 : IntKind.i64.wrap ((i : Int) - 1) = (i : Int) - 1 := wrap_i64 (by omega) (by omega)
 have h249 : Pure Gam 249 [.agg [.int .i64 (n.op : Int), .int .i64 (n.sort : Int), .str n.name, .str n.num, .int .i64 (n.kids : Int)]] (.bool true) := pure249 hn hV
 have h250 : Pure Gam 250 [.int .i64 (n.op : Int), .int .i64 (n.kids : Int)] (.bool true) := pure250 hn
 rw [eTerm] at h0
 refine K_unroll ?_
 simp only [go_sem, Nat.reduceBEq, Nat.reduceAdd, Nat.reduceLeDiff, Nat.reduceSub, reduceCtorEq, ↓reduceIte, c243_0, h0, h4, h5, h6, hB, e1, node_idx hti, e2, hlen, e3, CK_pure h249, CK_pure h250, Bool.not_true, e4, e5, hkv, bwV_ok hrow]
 refine look_kids (P := P) hB hPl hPo hKd hd (by omega) hrow helem (by simp [upd_at, h4]) (by simp [upd_at]) (by simp [upd_at]) (by simp [upd_at]) ?_
 intro dep u o6 o7 clk' hd1 hd2
 have h252 : ∀ u, Pure Gam 252 [.agg [.int .i64 (n.op : Int), .int .i64 (n.sort : Int), .str n.name, .str n.num, .int .i64 (n.kids : Int)], .sl (ss.map nat) u] (.int .i64 (s : Int)) := fun u => pure252 hn hss
 have hs := hn.pos hV
 have e7 : decide ((s : Int) = 0) = false := by rw [decide_eq_false_iff_not]; omega
 obtain ⟨q, hq⟩ : ∃ q, P[i]? = some q := ⟨P[i], by simp [hPl, hilt]⟩
 have happ' := fun P o3 o4 o5 o6 o7 g8 gen => happ ⟨s, 1 + lens Kk, dep⟩ P o3 o4 o5 o6 o7 g8 gen rfl
 have hPo' := PartsOk.node (s := s) (dep := dep) hPo (by omega)
 have hst := fun L => part_store (L := L) (B := B) (gP := gP) (p := ⟨s, dep, i + 1 + lens Kk⟩) hB hq
 simp only at hst
 simp only [nat] at happ'
 have fin : ∀ (ts' : Tmps) (P' : List Pt) (o3 o4 o5 o6 o7 o8 : AObj) (gen clk' : Nat), P' = P.set i ⟨s, dep, i + 1 + lens Kk⟩ → ts' 0 = .sl (t.map eNode) .no → ts' 4 = .ptr (B + 2) g2 0 0 → ts' 5 = .ob (B + 9) gen 0 (G.length + 1) → ts' 6 = .int .i64 ((i : Int) - 1) →
     K Gam B (.loop c243_0) ks ⟨ts', lookH D B t gP gV g2 P' o3 o4 o5 o6 o7 o8 (.blk gen ((starts i (⟨s, 1 + lens Kk, dep⟩ :: G)).reverse.map nat) true true 0), clk'⟩ Q := by
   intro ts' P' o3 o4 o5 o6 o7 o8 gen clk' hP' q0 q4 q5 q6
   refine hQ _ dep hd2 ⟨P', _, _, _, _, _, _, _, by rw [hP', List.length_set]; exact hPl, ?_, q0, q4, q6, .inr ⟨by simp, gen, q5, rfl⟩, rfl⟩
   rw [hP', Nat.add_assoc]
   exact hPo'
 by_cases h15 : n.op = 15
 · obtain ⟨m, r, hmr, hm3⟩ := hn.mul_num h15
   have ht1 : t[i + 1]? = some m := by
     rw [ht, List.getElem?_append_right (by omega), show i + 1 - pre.length = 1 by omega, hmr]
     rfl
   have f1 : decide ((n.op : Int) = 15) = true := by rw [decide_eq_true_iff]; omega
   have f2 : decide ((m.op : Int) = 3) = true := by rw [decide_eq_true_iff]; omega
   simp only [go_sem, Nat.reduceBEq, Nat.reduceAdd, Nat.reduceLeDiff, Nat.reduceSub, reduceCtorEq, ↓reduceIte, h0, h4, h5, h6, hB, hKs, CK_pure (h252 _), e7, f1, e5, node_idx ht1, f2, Bool.not_true, part_idx hB hq hPl, hst, hlen, e4, hrv, happ', e6]
   exact fin _ _ _ _ _ _ _ _ _ _ rfl (by simp [upd_at, h0]) (by simp [upd_at, h4]) (by simp [upd_at]) (by simp [upd_at])
 · have f1 : decide ((n.op : Int) = 15) = false := by rw [decide_eq_false_iff_not]; omega
   simp only [go_sem, Nat.reduceBEq, Nat.reduceAdd, Nat.reduceLeDiff, Nat.reduceSub, reduceCtorEq, ↓reduceIte, h0, h4, h5, h6, hB, hKs, CK_pure (h252 _), e7, f1, part_idx hB hq hPl, hst, hlen, e4, hrv, happ', e6]
   exact fin _ _ _ _ _ _ _ _ _ _ rfl (by simp [upd_at, h0]) (by simp [upd_at, h4]) (by simp [upd_at]) (by simp [upd_at])
def RVG (x : Option (List AV)) (R : AV → List AObj → Prop) (h : List AObj) : Prop :=
 match x with
 | some vs => (oneOf vs).obs = [] ∧ R (oneOf vs).cv h
 | none => False
def EndG (rs : List ARes) (R : AV → List AObj → Prop) : Post := fun e s => (∀ i, e ≠ .exit i) ∧ RVG (resultsA s.h s.ts rs) R s.h
theorem EndG_ret {rs : List ARes} {R : AV → List AObj → Prop} {ts : Tmps} {h : List AObj} {c : Nat} : EndG rs R .ret ⟨ts, h, c⟩ = RVG (resultsA h ts rs) R h := by simp [EndG]
theorem EndG_norm {rs : List ARes} {R : AV → List AObj → Prop} {ts : Tmps} {h : List AObj} {c : Nat} : EndG rs R .norm ⟨ts, h, c⟩ = RVG (resultsA h ts rs) R h := by simp [EndG]
theorem RVG_some {vs : List AV} {R : AV → List AObj → Prop} {h : List AObj} (ho : (oneOf vs).obs = []) : RVG (some vs) R h = R (oneOf vs).cv h := by simp [RVG, ho]
attribute [go_sem] EndG_ret EndG_norm
theorem WC_grow {f : Nat} {args az : List AV} {h : List AObj} {clk : Nat} {af : AFun} {Q : AV → List AObj → Nat → Prop} (hext : Gam.ext f = none) (hfn : Gam.fn f = some af) (hb : af.byref = []) (ho : af.owned = false) (hobs : obsL args = []) (has : cvL args = az) (hids : idsL az = [])
   (hw : ∀ (D : List AObj) (B : Nat) (R : AV → List AObj → Prop), D.length = B → B = h.length → (∀ v L', (∃ i ∈ v.ids, B ≤ i) → (∀ c, Q v (h ++ L') c) → R v (D ++ L')) → K Gam B af.body [] ⟨entry az, D ++ List.replicate af.nslots .dead, clk⟩ (EndG af.results R)) : WC Gam f args h clk Q := by
 obtain ⟨k, e, s, he, hne, hend⟩ := hw (maskFrom [] 0 h) h.length (fun v h' => (∃ i ∈ v.ids, h.length ≤ i) ∧ ∀ c, Q v (h ++ h'.drop h.length) c) (mask_len) rfl (fun v L' hi hq => ⟨hi, by
   rw [List.drop_left' mask_len]
   exact hq⟩)
 have hp : passArgs h af.byref 0 args = some az := by rw [hb, passArgs_cv hobs, has]
 have hl : lentSlots af.byref 0 args = [] := by rw [hb]; exact lent_nil hobs
 unfold RVG at hend
 split at hend
 · rename_i vs hr
   obtain ⟨hob, ⟨i, hi1, hi2⟩, hq⟩ := hend
   have hc := conv_cv (h := s.h) hob
   refine ⟨k, (oneOf vs).cv, h ++ s.h.drop h.length, s.clk, ?_, hq _⟩
   have hall : ((oneOf vs).cv.ids.all fun x => decide (x < h.length)) = false := by
     rw [List.all_eq_false]
     exact ⟨i, hi1, by simp; omega⟩
   unfold callA callWith
   simp only [hext, hfn, hp, hl, freezeAll, hids, reach, he, ho, Bool.false_eq_true, if_false, hr, hc, hob, merge_nil, List.map_nil, List.flatten_nil, List.append_nil, ite_self]
   cases e with
   | exit i => exact absurd rfl (hne i)
   | norm => simp [hall]
   | ret => simp [hall]
 · exact hend.elim
theorem CK_of_WC {f base gg clk : Nat} {args : List AV} {h : List AObj} {dst : Option Nat} {os : List AOper} {ts : Tmps} {ks : List Kf} {Q : Post} (hw : WC Gam f args h clk fun v h' c => O Gam base .plain (gg + 1) os ⟨putA ts dst v, h', c⟩ ks Q) : CK Gam base f args h clk .plain dst gg os ts ks Q := hw
theorem look_forest {D : List AObj} {B : Nat} {t : Term} {gP gV g2 : Nat} {V : List Var} {ks : List Kf} {Q : Post} (hB : D.length = B) (hV : ∀ v ∈ V, v ∈ allVars) (htl : t.length ≤ 2 ^ 19) {ss : List Nat} {d : Nat} {u : Term} (h : WF V ss d u) : ∀ {pre post : Term} {G : List Tr} {st : St}, d ≤ 1000 → t = pre ++ (u ++ post) → G.length ≤ post.length → LookSt D B t gP gV g2 (pre.length + u.length) G st →
   (∀ st' Fu, Fu.map (·.s) = ss → lens Fu = u.length → Fu.length ≤ u.length → (∀ f ∈ Fu, f.dep ≤ d) → LookSt D B t gP gV g2 pre.length (Fu ++ G) st' → K Gam B (.loop c243_0) ks st' Q) → K Gam B (.loop c243_0) ks st Q := by
 induction h with
 | nil =>
   intro pre post G st _ _ _ hst hQ
   exact hQ st [] rfl rfl (by simp) (by simp) (by simpa using hst)
 | @cons n ss ks' s d ss' rest h1 h2 h3 h4 ih1 ih2 =>
   intro pre post G st hd ht hG hst hQ
   have e1 : t = (pre ++ n :: ks') ++ (rest ++ post) := by rw [ht]; simp
   refine ih2 (pre := pre ++ n :: ks') (post := post) hd e1 hG (by
     have e : pre.length + (n :: (ks' ++ rest)).length = (pre ++ n :: ks').length + rest.length := by simp; omega
     rw [← e]
     exact hst) fun st1 Fr hr1 hr2 hr2' hr3 hr4 => ?_
   have e2 : t = (pre ++ [n]) ++ (ks' ++ (rest ++ post)) := by rw [ht]; simp
   have hlen := congrArg List.length ht
   simp only [List.length_append, List.length_cons] at hlen
   refine ih1 (pre := pre ++ [n]) (post := rest ++ post) (G := Fr ++ G) (by omega) e2 (by simp only [List.length_append]; omega) (by
     have e : (pre ++ n :: ks').length = (pre ++ [n]).length + ks'.length := by simp; omega
     rw [← e]
     exact hr4) fun st2 Fk hk1 hk2 hk2' hk3 hk4 => ?_
   refine look_node (t := t) (pre := pre) (post := rest ++ post) (Kk := Fk) (G := Fr ++ G) hB h2 hV h3 (by rw [ht]; simp) hk1 hk3 (by omega) (by simp only [List.length_append]; omega) (by omega) (by simpa using hk4) fun st3 dep hd3 hst3 => ?_
   refine hQ st3 (⟨s, 1 + lens Fk, dep⟩ :: Fr) (by simp [hr1]) ?_ ?_ ?_ (by simpa using hst3)
   · rw [lens_cons, hk2, hr2]; simp; omega
   · simp only [List.length_cons, List.length_append]; omega
   · intro f hf
     rw [List.mem_cons] at hf
     rcases hf with rfl | hf
     · exact hd3
     · exact hr3 f hf
theorem wc243 {V : List Var} {s d : Nat} {t : Term} {u : Tip} {h : List AObj} {clk : Nat} {Q : AV → List AObj → Nat → Prop} (ht : WF V [s] d t) (hV : ∀ v ∈ V, v ∈ allVars) (hl : t.length ≤ 20000) (hd : d ≤ 1000)
   (hQ : ∀ gP gV g2 P dep o3 o4 o5 o6 o7 o8 o9 c, P.length = t.length → P[0]? = some ⟨s, dep, t.length⟩ → dep ≤ d → Q (.tup [.ptr (h.length + 1) gV 0 0, .bool true]) (lookH h h.length t gP gV g2 P o3 o4 o5 o6 o7 o8 o9) c) : WC Gam 243 [.sl (t.map eNode) u] h clk Q := by
 refine WC_grow rfl fn243 rfl rfl rfl (az := [eTerm t]) rfl (by simp [idsL, ids_term]) fun D B R hB hBh hR => ?_
 have hms : ∀ h s g, msV h s g (.agg [.int .i64 0, .int .i64 0, .int .i64 0]) 24 (.int .i64 (t.length : Int)) (.int .i64 (t.length : Int)) = some (.ob s g 0 t.length, h.set s (.blk g (List.replicate t.length (.agg [.int .i64 0, .int .i64 0, .int .i64 0])) true false 0)) := fun h s g => msV_ok rfl (by omega)
 have hrep : List.replicate t.length (AV.agg [.int .i64 0, .int .i64 0, .int .i64 0]) = (List.replicate t.length (⟨0, 0, 0⟩ : Pt)).map ePt := by rw [List.map_replicate]; rfl
 have e0 : IntKind.i64.wrap ((t.length : Int) - 1) = (t.length : Int) - 1 := wrap_i64 (by omega) (by omega)
 simp only [go_sem, Nat.reduceBEq, Nat.reduceAdd, Nat.reduceLeDiff, Nat.reduceSub, reduceCtorEq, ↓reduceIte, af243, hB, eTerm, List.length_map, hms, hrep, e0]
 refine look_forest (pre := []) (post := []) (G := []) hB hV (by omega) ht hd (by simp) (by simp) ⟨List.replicate t.length ⟨0, 0, 0⟩, _, _, _, _, _, _, _, by simp, PartsOk.nil, by simp [upd_at, entry_zero, eTerm], by simp [upd_at], by simp [upd_at], .inl ⟨rfl, by simp [upd_at]⟩, rfl⟩ ?_
 rintro ⟨ts, h', clk'⟩ Fu hF1 hF2 hF3 hF4 ⟨P, o3, o4, o5, o6, o7, o8, o9, hPl, hPo, h0, h4, h6, hr, rfl⟩
 dsimp only at h0 h4 h6 hr
 obtain ⟨f, rfl⟩ : ∃ f, Fu = [f] := by
   match Fu, hF1 with
   | [f], _ => exact ⟨f, rfl⟩
 have hfs : f.s = s := by simpa using hF1
 have hfl : f.len = t.length := by simpa [lens] using hF2
 rcases hr with ⟨hbad, _⟩ | ⟨_, g, h5, ho9⟩
 · simp at hbad
 have hp0 := hPo 0 f (by simp)
 rw [hfs, hfl] at hp0
 have hp0' : P[0]? = some ⟨s, f.dep, t.length⟩ := by simpa [lens] using hp0
 have e1 : decide ((0 : Int) ≤ -1) = false := by decide
 have h6' : ts 6 = .int .i64 (-1) := by rw [h6]; rfl
 refine K_unroll ?_
 simp only [go_sem, Nat.reduceBEq, Nat.reduceAdd, Nat.reduceLeDiff, Nat.reduceSub, reduceCtorEq, ↓reduceIte, c243_0, h6', e1, h4, h5, lookH, hB, eTerm, decide_true]
 rw [RVG_some rfl]
 refine hR _ _ ⟨B + 1, by simp [oneOf, AV.cv, cvL, AV.ids, idsL], by omega⟩ fun c => ?_
 have := fun gP gV g2 => hQ gP gV g2 P f.dep o3 o4 o5 o6 o7 o8 o9 c hPl hp0' (hF4 f (by simp))
 simp only [← hBh, lookH, eTerm] at this
 exact this _ _ _
theorem WF.nodes {V : List Var} {ss : List Nat} {d : Nat} {t : Term} (h : WF V ss d t) : ∀ n ∈ t, ∃ ss' s' ks, NodeOk V n ss' s' ks := by
 induction h with
 | nil => simp
 | cons h1 h2 h3 h4 ih1 ih2 =>
   intro n hn
   rw [List.mem_cons, List.mem_append] at hn
   rcases hn with rfl | hn | hn
   · exact ⟨_, _, _, h2⟩
   · exact ih1 n hn
   · exact ih2 n hn
theorem NodeOk.name {V : List Var} {n : Node} {ss : List Nat} {s : Nat} {ks : Term} (hn : NodeOk V n ss s ks) : n.op ≠ 5 ∧ (n.op = 4 → ∃ v ∈ V, n.name = v.name ∧ n.sort = v.sort) := by
 cases hn with
 | var h => exact ⟨by simp, fun _ => ⟨_, h, rfl, rfl⟩⟩
 | bool h => exact ⟨by simp [bare]; omega, fun e => by simp [bare] at e; omega⟩
 | andor h => exact ⟨by simp [bare]; omega, fun e => by simp [bare] at e; omega⟩
 | cmp h hs => exact ⟨by simp [bare]; omega, fun e => by simp [bare] at e; omega⟩
 | div h _ _ => exact ⟨by simp; omega, fun e => by simp at e; omega⟩
 | _ => exact ⟨by simp [bare], fun e => by simp [bare] at e⟩
def NamesOk (V : List Var) (t : Term) : Prop := ∀ n ∈ t, n.op ≠ 5 ∧ (n.op = 4 → ∃ v ∈ V, n.name = v.name ∧ n.sort = v.sort)
theorem WF.names {V : List Var} {ss : List Nat} {d : Nat} {t : Term} (h : WF V ss d t) : NamesOk V t := fun n hn => by
 obtain ⟨_, _, _, h⟩ := h.nodes n hn
 exact h.name
def varsOf : Term → List Var → List Var
 | [], acc => acc
 | n :: t, acc => if n.op = 4 ∧ (⟨n.name, n.sort⟩ : Var) ∉ acc then varsOf t (acc ++ [⟨n.name, n.sort⟩]) else varsOf t acc
theorem varsOf_mem {V : List Var} : ∀ {t : Term} {acc : List Var}, NamesOk V t → (∀ v ∈ acc, v ∈ V) → ∀ v ∈ varsOf t acc, v ∈ V
 | [], acc, _, ha, v, hv => ha v hv
 | n :: t, acc, hn, ha, v, hv => by
   have ht : NamesOk V t := fun m hm => hn m (List.mem_cons_of_mem _ hm)
   simp only [varsOf] at hv
   split at hv
   · rename_i hc
     refine varsOf_mem ht (fun w hw => ?_) v hv
     rw [List.mem_append, List.mem_singleton] at hw
     rcases hw with hw | rfl
     · exact ha w hw
     · obtain ⟨v', hv', e1, e2⟩ := (hn n List.mem_cons_self).2 hc.1
       rw [e1, e2]
       exact hv'
   · exact varsOf_mem ht ha v hv
theorem varsOf_append {t u : Term} {acc : List Var} : varsOf (t ++ u) acc = varsOf u (varsOf t acc) := by
 induction t generalizing acc with
 | nil => rfl
 | cons n t ih =>
   simp only [List.cons_append, varsOf]
   split
   · exact ih
   · exact ih
theorem varsOf_len : ∀ {t : Term} {acc : List Var}, (varsOf t acc).length ≤ acc.length + t.length
 | [], acc => Nat.le_refl _
 | n :: t, acc => by
   simp only [varsOf, List.length_cons]
   split
   · have := varsOf_len (t := t) (acc := acc ++ [⟨n.name, n.sort⟩])
     simp at this
     omega
   · have := varsOf_len (t := t) (acc := acc)
     omega
theorem var_name {v w : Var} (hv : v ∈ allVars) (hw : w ∈ allVars) (h : v.name = w.name) : v = w := by
 simp only [allVars, List.mem_cons, List.not_mem_nil, or_false] at hv hw
 rcases hv with rfl | rfl | rfl | rfl | rfl | rfl | rfl | rfl <;> rcases hw with rfl | rfl | rfl | rfl | rfl | rfl | rfl | rfl <;> first | rfl | (simp at h)
def nameMap (acc : List Var) : List (AV × AV) := acc.map fun v => (.str v.name, eVar v)
theorem findKey_name {v : Var} (hv : v ∈ allVars) : ∀ {acc : List Var}, (∀ w ∈ acc, w ∈ allVars) → findKey (.one .str) (.str v.name) (nameMap acc) = some (if v ∈ acc then some (eVar v) else none)
 | [], _ => rfl
 | w :: acc, ha => by
   have ih := findKey_name hv (acc := acc) fun x hx => ha x (List.mem_cons_of_mem _ hx)
   unfold nameMap at ih ⊢
   simp only [List.map_cons, findKey, AV.eqv, AV.eq1]
   by_cases h : v = w
   · subst h
     simp
   · have hne : decide (v.name = w.name) = false := decide_eq_false fun e => h (var_name hv (ha w List.mem_cons_self) e)
     simp only [hne, ih, List.mem_cons, h, false_or]
theorem putKey_name {v : Var} (hv : v ∈ allVars) : ∀ {acc : List Var}, (∀ w ∈ acc, w ∈ allVars) → v ∉ acc → putKey (.one .str) (.str v.name) (eVar v) (nameMap acc) = some (nameMap (acc ++ [v]))
 | [], _, _ => rfl
 | w :: acc, ha, hn => by
   rw [List.mem_cons, not_or] at hn
   have ih := putKey_name hv (acc := acc) (fun x hx => ha x (List.mem_cons_of_mem _ hx)) hn.2
   have hne : decide (v.name = w.name) = false := decide_eq_false fun e => hn.1 (var_name hv (ha w List.mem_cons_self) e)
   unfold nameMap at ih ⊢
   simp only [List.map_cons, List.cons_append, putKey, AV.eqv, AV.eq1, hne, ih, Option.map_some]
theorem lk_str {h : List AObj} {z : AV} {es : List (AV × AV)} {s : List Nat} {r : Option AV} (hf : findKey (.one .str) (.str s) es = some r) : lkV h (.one .str) z true (some es) (.str s) = some (found true z r, h) := by
 have : ((AV.str s).eqv (.one .str) (.str s)).isSome = true := by simp [AV.eqv, AV.eq1]
 simp only [lkV, this, if_true, hf, Option.map_some]
theorem lk_strF {h : List AObj} {z : AV} {es : List (AV × AV)} {s : List Nat} {r : Option AV} (hf : findKey (.one .str) (.str s) es = some r) : lkV h (.one .str) z false (some es) (.str s) = some (found false z r, h) := by
 have : ((AV.str s).eqv (.one .str) (.str s)).isSome = true := by simp [AV.eqv, AV.eq1]
 simp only [lkV, this, if_true, hf, Option.map_some]
theorem found_some {z v : AV} : found true z (some v) = .tup [v, .bool true] := (rfl)
theorem found_none {z : AV} : found true z none = .tup [z, .bool false] := (rfl)
theorem found_someF {z v : AV} : found false z (some v) = v := (rfl)
theorem found_noneF {z : AV} : found false z none = z := (rfl)
theorem mapOf_mp {h : List AObj} {s g : Nat} : mapOf h (.mp s g) = mapAt h s g := (rfl)
theorem mu_loc {D L : List AObj} {B k g : Nat} {es es' : List (AV × AV)} {s : List Nat} {v : AV} (hB : D.length = B) (hm : mapAt L k g = some es) (ho : v.obs = []) (hp : putKey (.one .str) (.str s) v.cv es = some es') : muV (D ++ L) (.one .str) (.str s) v (.mp (B + k) g) = some (.undef, D ++ L.set k (.map g es')) := by
 have hpub : pub (D ++ L) v = some (v.cv, D ++ L) := by simp only [pub, conv_cv ho, Option.map_some, ho, freezeAll]
 have : ((AV.str s).eqv (.one .str) (.str s)).isSome = true := by simp [AV.eqv, AV.eq1]
 simp only [muV, loc_map hB, hm, hpub, this, if_true, hp, Option.map_some, loc_set hB]
end Go.Proofs.YtbeooboebfbchaaGreatDoor.Am
