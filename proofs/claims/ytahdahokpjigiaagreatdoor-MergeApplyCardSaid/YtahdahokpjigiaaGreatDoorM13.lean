/- The entries of the tables of awake, 3 -/
import Derived.Test.YtahdahokpjigiaaGreatDoorM10
set_option linter.all false
namespace Go.Proofs.YtahdahokpjigiaaGreatDoor.Am
open Go
set_option maxRecDepth 100000
section
open Tw
theorem w2n:chk (z2p []) 1000 102 k9q=true:=by kernel_rfl
theorem w2o:chk (z2p []) 1000 102 k9r=true:=by kernel_rfl
theorem w2p:chk (z2p []) 1000 102 k9s=true:=by kernel_rfl
theorem w2q:chk (z2p []) 1000 102 k9t=true:=by kernel_rfl
theorem w2r:chk (z2p []) 1000 102 k9u=true:=by kernel_rfl
theorem w2s:chk (z2p []) 1000 102 k9v=true:=by kernel_rfl
theorem w2t:chk (z2p []) 1000 102 k9w=true:=by kernel_rfl
theorem w2u:chk (z2p []) 1000 102 k9x=true:=by kernel_rfl
theorem w2v:chk (z2p []) 1000 102 k9y=true:=by kernel_rfl
theorem w2w:chk (z2p []) 1000 102 k9z=true:=by kernel_rfl
theorem g2d:chk (z2p []) 1000 102 g0r=true:=by kernel_rfl
theorem g2e:chk (z2p []) 1000 102 g0s=true:=by kernel_rfl
theorem g2f:chk (z2p []) 1000 102 g0t=true:=by kernel_rfl
theorem g2g:chk (z2p []) 1000 102 g0u=true:=by kernel_rfl
theorem g2h:chk (z2p []) 1000 102 g0v=true:=by kernel_rfl
theorem w2x:chk (z2p []) 1000 165 v0a=true:=by kernel_rfl
theorem w2y:chk (z2p []) 1000 165 v0b=true:=by kernel_rfl
theorem w2z:chk (z2p []) 1000 165 v0c=true:=by kernel_rfl
theorem w3a:chk (z2p []) 1000 165 v0d=true:=by kernel_rfl
theorem w3b:chk (z2p []) 1000 165 v0e=true:=by kernel_rfl
theorem w3c:chk (z2p []) 1000 165 v0f=true:=by kernel_rfl
theorem w3d:chk (z2p []) 1000 165 v0g=true:=by kernel_rfl
theorem w3e:chk (z2p []) 1000 165 v0h=true:=by kernel_rfl
theorem w3f:chk (z2p []) 1000 165 v0i=true:=by kernel_rfl
end
end Go.Proofs.YtahdahokpjigiaaGreatDoor.Am
