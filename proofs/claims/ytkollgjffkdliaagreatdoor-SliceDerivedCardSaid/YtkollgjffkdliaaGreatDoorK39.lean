/- Proved: SliceDerived of chcsolverlaw18 returns true for every argument, as the y4d Rows.SliceDerivedCardSaid states it; there is no condition beyond the y4d. -/
import Derived.Test.YtkollgjffkdliaaGreatDoorK34
import Derived.Test.YtkollgjffkdliaaGreatDoorK38
set_option linter.all false
namespace Go.Proofs.YtkollgjffkdliaaGreatDoor.Am
theorem sliceDerivedCard:Rows.SliceDerivedCardSaid:=y4d w2a
end Go.Proofs.YtkollgjffkdliaaGreatDoor.Am
