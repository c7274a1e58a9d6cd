/- The small tables, checked in pieces -/
import Derived.Test.YtkollgjffkdliaaGreatDoorK08
open List renaming all_eq_true → y9,mem_iff_getElem → d5
set_option linter.all false
namespace Go.Proofs.YtkollgjffkdliaaGreatDoor.Am
open Go
set_option maxRecDepth 100000
theorem Borne.all {T:List (Nat×List (List AV×AV))} {f:Nat} {t:List (List AV×AV)} (h:t.all (chk (z2j T) 1000 f)=true):Borne T f t:=fun q hq=>⟨1000,y9.1 h q hq⟩
theorem Borne.chunks {T:List (Nat×List (List AV×AV))} {f m n:Nat} {t:List (List AV×AV)} (hm:0 < m) (hl:t.length≤n * m) (h:∀ i,i < n→((t.drop (m * i)).take m).all (chk (z2j T) 1000 f)=true):Borne T f t:=fun q hq=>by
 obtain⟨j,hj,rfl⟩:=d5.1 hq
 have hd:=Nat.div_add_mod j m
 have hlt:=Nat.mod_lt j hm
 refine⟨1000,y9.1 (h (j / m) ((Nat.div_lt_iff_lt_mul hm).2 (by omega))) _ ?_⟩
 refine d5.2 ⟨j % m, ?_, ?_⟩
 ·simp only[List.length_take,List.length_drop]
  omega
 ·simp only[List.getElem_take,List.getElem_drop]
  congr 1
theorem y6f:Borne [] 99 v1a:= .all (by kernel_rfl)
theorem y6g:Borne [] 168 j2m:= .all (by kernel_rfl)
theorem y6h:Borne [] 222 j8j:= .all (by kernel_rfl)
theorem y6i:Borne [] 183 x6o:= .all (by kernel_rfl)
theorem u5j:Borne [] 24 v4k:= .all (by kernel_rfl)
theorem y6j:Borne [] 124 j2l:= .all (by kernel_rfl)
theorem u5k:Borne [] 67 v4l:= .all (by kernel_rfl)
end Go.Proofs.YtkollgjffkdliaaGreatDoor.Am
