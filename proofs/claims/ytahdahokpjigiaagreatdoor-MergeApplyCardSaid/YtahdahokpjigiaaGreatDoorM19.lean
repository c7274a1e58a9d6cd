/- The small tables, checked in pieces -/
import Derived.Test.YtahdahokpjigiaaGreatDoorM10
set_option linter.all false
namespace Go.Proofs.YtahdahokpjigiaaGreatDoor.Am
open Go
set_option maxRecDepth 100000
theorem Borne.all {T:List (Nat×List (List AV×AV))} {f:Nat} {t:List (List AV×AV)} (h:t.all (chk (z2p T) 1000 f)=true):Borne T f t:=fun q hq=>⟨1000,List.all_eq_true.1 h q hq⟩
theorem Borne.chunks {T:List (Nat×List (List AV×AV))} {f m n:Nat} {t:List (List AV×AV)} (hm:0 < m) (hl:t.length≤n * m) (h:∀ i,i < n→((t.drop (m * i)).take m).all (chk (z2p T) 1000 f)=true):Borne T f t:=fun q hq=>by
 obtain⟨j,hj,rfl⟩:=List.mem_iff_getElem.1 hq
 have hd:=Nat.div_add_mod j m
 have hlt:=Nat.mod_lt j hm
 refine⟨1000,List.all_eq_true.1 (h (j / m) ((Nat.div_lt_iff_lt_mul hm).2 (by omega))) _ ?_⟩
 refine List.mem_iff_getElem.2 ⟨j % m, ?_, ?_⟩
 ·simp only[List.length_take,List.length_drop]
  omega
 ·simp only[List.getElem_take,List.getElem_drop]
  congr 1
theorem y3s:Borne [] 122 j7l:= .all (by kernel_rfl)
theorem y3t:Borne [] 144 q2y:= .all (by kernel_rfl)
theorem y3u:Borne [] 243 j7k:= .all (by kernel_rfl)
theorem y3v:Borne [] 210 x1m:= .all (by kernel_rfl)
theorem y3w:Borne [] 200 j1s:= .all (by kernel_rfl)
theorem u3y:Borne [] 106 v2g:= .all (by kernel_rfl)
end Go.Proofs.YtahdahokpjigiaaGreatDoor.Am
