/- Packed. -/
import Derived.Test.YtofcogekgcgjhaaGreatDoorCards
import Derived.Test.YtofcogekgcgjhaaGreatDoorTie
import Derived.ProofKit
import Derived.OpenShut
set_option maxRecDepth 100000
namespace Go.Proofs.YtofcogekgcgjhaaGreatDoor.accelMemory
open Go.ChangeShapes Go.WideShapes Go.ChangeAt Go.RowKit
theorem named:(Rows.accelMemoryUptoRow.named==(Tryz.pinned.checked.prog).varsNamed 8)=true:=by kernel_rfl
theorem recurses:(Rows.accelMemoryUptoRow.recurses==(Tryz.pinned.checked.prog).recurses 8)=true:=by kernel_rfl
end Go.Proofs.YtofcogekgcgjhaaGreatDoor.accelMemory
