/- The small tables, checked in pieces -/
import Derived.Test.YtkollgjffkdliaaGreatDoorM08
open List renaming all_eq_true → d6,mem_iff_getElem → t4
set_option linter.all false
namespace Go.Proofs.YtkollgjffkdliaaGreatDoor.Am
open Go
set_option maxRecDepth 100000
theorem Borne.all {T:List (Nat×List (List AV×AV))} {f:Nat} {t:List (List AV×AV)} (h:t.all (chk (z2j T) 1000 f)=true):Borne T f t:=fun q hq=>⟨1000,d6.1 h q hq⟩
theorem Borne.chunks {T:List (Nat×List (List AV×AV))} {f m n:Nat} {t:List (List AV×AV)} (hm:0 < m) (hl:t.length≤n * m) (h:∀ i,i < n→((t.drop (m * i)).take m).all (chk (z2j T) 1000 f)=true):Borne T f t:=fun q hq=>by
 obtain⟨j,hj,rfl⟩:=t4.1 hq
 have hd:=Nat.div_add_mod j m
 have hlt:=Nat.mod_lt j hm
 refine⟨1000,d6.1 (h (j / m) ((Nat.div_lt_iff_lt_mul hm).2 (by omega))) _ ?_⟩
 refine t4.2 ⟨j % m, ?_, ?_⟩
 ·simp only[List.length_take,List.length_drop]
  omega
 ·simp only[List.getElem_take,List.getElem_drop]
  congr 1
theorem u3k:Borne [] 99 v4g:= .all (by kernel_rfl)
theorem u3l:Borne [] 168 q3m:= .all (by kernel_rfl)
theorem u3m:Borne [] 222 k0u:= .all (by kernel_rfl)
theorem u3n:Borne [] 183 q1s:= .all (by kernel_rfl)
theorem u3o:Borne [] 124 j3x:= .all (by kernel_rfl)
theorem g3w:Borne [] 67 v8z:= .all (by kernel_rfl)
end Go.Proofs.YtkollgjffkdliaaGreatDoor.Am
