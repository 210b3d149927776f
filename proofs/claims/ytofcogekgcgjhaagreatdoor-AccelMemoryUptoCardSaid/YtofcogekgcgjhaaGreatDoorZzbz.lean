/- Packed. -/
import Derived.Test.YtofcogekgcgjhaaGreatDoorCards
import Derived.Test.YtofcogekgcgjhaaGreatDoorTie
import Derived.ProofKit
import Derived.OpenShut
set_option maxRecDepth 100000
namespace Go.Proofs.YtofcogekgcgjhaaGreatDoor.accelMemory
open Go.ChangeShapes Go.WideShapes Go.ChangeAt Go.RowKit
theorem heard:(Tryz.pinned.checked.prog).stopsHeard=true:=by kernel_rfl
theorem enter:(Tryz.pinned.checked.prog).mayEnter=true:=by kernel_rfl
theorem keys:(Rows.accelMemoryUptoRow.plainKeys==(Tryz.pinned.checked.prog).plainKeys)=true:=by kernel_rfl
theorem lifted1:(Rows.accelMemoryUptoRow.lifted==(Tryz.pinned.checked.prog).liftsFinal)=true:=by kernel_rfl
end Go.Proofs.YtofcogekgcgjhaaGreatDoor.accelMemory
