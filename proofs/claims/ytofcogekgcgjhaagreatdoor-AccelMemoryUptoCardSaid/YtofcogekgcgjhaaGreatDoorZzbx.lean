/- Packed. -/
import Derived.Test.YtofcogekgcgjhaaGreatDoorCards
import Derived.Test.YtofcogekgcgjhaaGreatDoorTie
import Derived.ProofKit
import Derived.OpenShut
set_option maxRecDepth 100000
namespace Go.Proofs.YtofcogekgcgjhaaGreatDoor.accelMemory
open Go.ChangeShapes Go.WideShapes Go.ChangeAt Go.RowKit
theorem inPlace:(Rows.accelMemoryUptoRow.inPlace==(Tryz.pinned.checked.prog).inPlace 8)=true:=by kernel_rfl
theorem unfollowed:(Rows.accelMemoryUptoRow.unfollowed==(Tryz.pinned.checked.prog).unfollowed 8)=true:=by kernel_rfl
end Go.Proofs.YtofcogekgcgjhaaGreatDoor.accelMemory
