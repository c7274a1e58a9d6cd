/- The entries of the tables of awake, 2 -/
import Derived.Test.YtahdahokpjigiaaGreatDoorM10
set_option linter.all false
namespace Go.Proofs.YtahdahokpjigiaaGreatDoor.Am
open Go
set_option maxRecDepth 100000
section
open Tw
theorem y3b:chk (z2p []) 1000 101 w1v=true:=by kernel_rfl
theorem y3c:chk (z2p []) 1000 102 w1w=true:=by kernel_rfl
theorem y3d:chk (z2p []) 1000 102 w1x=true:=by kernel_rfl
theorem y3e:chk (z2p []) 1000 102 w1y=true:=by kernel_rfl
theorem y3f:chk (z2p []) 1000 102 w1z=true:=by kernel_rfl
theorem y3g:chk (z2p []) 1000 102 w2a=true:=by kernel_rfl
theorem y3h:chk (z2p []) 1000 102 w2b=true:=by kernel_rfl
theorem y3i:chk (z2p []) 1000 102 w2c=true:=by kernel_rfl
theorem y3j:chk (z2p []) 1000 102 w2d=true:=by kernel_rfl
theorem y3k:chk (z2p []) 1000 102 w2e=true:=by kernel_rfl
theorem y3l:chk (z2p []) 1000 102 w2f=true:=by kernel_rfl
theorem w2m:chk (z2p []) 1000 102 k9p=true:=by kernel_rfl
end
end Go.Proofs.YtahdahokpjigiaaGreatDoor.Am
