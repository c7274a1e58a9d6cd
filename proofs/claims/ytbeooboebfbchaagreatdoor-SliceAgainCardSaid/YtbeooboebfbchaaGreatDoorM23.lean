/- The small tables, checked in pieces. -/
import Derived.Test.YtbeooboebfbchaaGreatDoorM17
set_option linter.unusedVariables false
set_option linter.unusedSimpArgs false
namespace Go.Proofs.YtbeooboebfbchaaGreatDoor.Am
open Go
set_option maxRecDepth 100000
theorem Borne.all {T : List (Nat × List (List AV × AV))} {f : Nat} {t : List (List AV × AV)} (h : t.all (chk (GamT T) 1000 f) = true) : Borne T f t := fun q hq => ⟨1000, List.all_eq_true.1 h q hq⟩
theorem Borne.chunks {T : List (Nat × List (List AV × AV))} {f m n : Nat} {t : List (List AV × AV)} (hm : 0 < m) (hl : t.length ≤ n * m) (h : ∀ i, i < n → ((t.drop (m * i)).take m).all (chk (GamT T) 1000 f) = true) : Borne T f t := fun q hq => by
 obtain ⟨j, hj, rfl⟩ := List.mem_iff_getElem.1 hq
 have hd := Nat.div_add_mod j m
 have hlt := Nat.mod_lt j hm
 refine ⟨1000, List.all_eq_true.1 (h (j / m) ((Nat.div_lt_iff_lt_mul hm).2 (by omega))) _ ?_⟩
 refine List.mem_iff_getElem.2 ⟨j % m, ?_, ?_⟩
 · simp only [List.length_take, List.length_drop]
   omega
 · simp only [List.getElem_take, List.getElem_drop]
   congr 1
theorem ok167 : Borne [] 167 tab167 := .all (by kernel_rfl)
theorem ok51 : Borne [] 51 tab51 := .all (by kernel_rfl)
theorem ok119 : Borne [] 119 tab119 := .all (by kernel_rfl)
theorem ok96 : Borne [] 96 tab96 := .all (by kernel_rfl)
end Go.Proofs.YtbeooboebfbchaaGreatDoor.Am
