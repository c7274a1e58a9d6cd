/- The small tables, checked in pieces -/
import Derived.Test.YtdfepmffiampgaaGreatDoorM10
set_option linter.all false
namespace Go.Proofs.YtdfepmffiampgaaGreatDoor.Am
open Go
set_option maxRecDepth 100000
theorem Borne.all {T:List (Nat×List (List AV×AV))} {f:Nat} {t:List (List AV×AV)} (h:t.all (chk (z2n T) 1000 f)=true):Borne T f t:=fun q hq=>⟨1000,List.all_eq_true.1 h q hq⟩
theorem Borne.chunks {T:List (Nat×List (List AV×AV))} {f m n:Nat} {t:List (List AV×AV)} (hm:0 < m) (hl:t.length≤n * m) (h:∀ i,i < n→((t.drop (m * i)).take m).all (chk (z2n T) 1000 f)=true):Borne T f t:=fun q hq=>by
 obtain⟨j,hj,rfl⟩:=List.mem_iff_getElem.1 hq
 have hd:=Nat.div_add_mod j m
 have hlt:=Nat.mod_lt j hm
 refine⟨1000,List.all_eq_true.1 (h (j / m) ((Nat.div_lt_iff_lt_mul hm).2 (by omega))) _ ?_⟩
 refine List.mem_iff_getElem.2 ⟨j % m, ?_, ?_⟩
 ·simp only[List.length_take,List.length_drop]
  omega
 ·simp only[List.getElem_take,List.getElem_drop]
  congr 1
theorem u0l:Borne [] 306 v2b:= .all (by kernel_rfl)
theorem u0m:Borne [] 77 q1v:= .all (by kernel_rfl)
theorem u0n:Borne [] 215 j9i:= .all (by kernel_rfl)
theorem u0o:Borne [] 117 q1o:= .all (by kernel_rfl)
theorem u0p:Borne [] 169 j3c:= .all (by kernel_rfl)
theorem g1k:Borne [] 89 v6l:= .all (by kernel_rfl)
end Go.Proofs.YtdfepmffiampgaaGreatDoor.Am
