/- The small tables, checked in pieces -/
import Derived.Test.YtkollgjffkdliaaGreatDoorM11
set_option linter.all false
namespace Go.Proofs.YtkollgjffkdliaaGreatDoor.Am
open Go
set_option maxRecDepth 100000
theorem Borne.all {T:List (Nat×List (List AV×AV))} {f:Nat} {t:List (List AV×AV)} (h:t.all (chk (z2o T) 1000 f)=true):Borne T f t:=fun q hq=>⟨1000,List.all_eq_true.1 h q hq⟩
theorem Borne.chunks {T:List (Nat×List (List AV×AV))} {f m n:Nat} {t:List (List AV×AV)} (hm:0 < m) (hl:t.length≤n * m) (h:∀ i,i < n→((t.drop (m * i)).take m).all (chk (z2o T) 1000 f)=true):Borne T f t:=fun q hq=>by
 obtain⟨j,hj,rfl⟩:=List.mem_iff_getElem.1 hq
 have hd:=Nat.div_add_mod j m
 have hlt:=Nat.mod_lt j hm
 refine⟨1000,List.all_eq_true.1 (h (j / m) ((Nat.div_lt_iff_lt_mul hm).2 (by omega))) _ ?_⟩
 refine List.mem_iff_getElem.2 ⟨j % m, ?_, ?_⟩
 ·simp only[List.length_take,List.length_drop]
  omega
 ·simp only[List.getElem_take,List.getElem_drop]
  congr 1
theorem u1a:Borne [] 99 k0v:= .all (by kernel_rfl)
theorem u1b:Borne [] 168 q2k:= .all (by kernel_rfl)
theorem u1c:Borne [] 222 k0u:= .all (by kernel_rfl)
theorem u1d:Borne [] 183 q9l:= .all (by kernel_rfl)
theorem g1g:Borne [] 24 v8i:= .all (by kernel_rfl)
theorem u1e:Borne [] 124 j4q:= .all (by kernel_rfl)
theorem g1h:Borne [] 67 v8j:= .all (by kernel_rfl)
end Go.Proofs.YtkollgjffkdliaaGreatDoor.Am
