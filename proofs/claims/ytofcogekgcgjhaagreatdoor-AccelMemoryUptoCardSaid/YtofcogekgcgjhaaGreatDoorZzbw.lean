/- Packed. -/
import Derived.Test.YtofcogekgcgjhaaGreatDoorCards
import Derived.Test.YtofcogekgcgjhaaGreatDoorTie
import Derived.ProofKit
import Derived.OpenShut
set_option maxRecDepth 100000
namespace Go.Proofs.YtofcogekgcgjhaaGreatDoor.accelMemory
open Go.ChangeShapes Go.WideShapes Go.ChangeAt Go.RowKit
theorem goes:false=Rows.accelMemoryUptoRow.goesBy Tryz.pinned.checked.prog:=by kernel_rfl
end Go.Proofs.YtofcogekgcgjhaaGreatDoor.accelMemory
