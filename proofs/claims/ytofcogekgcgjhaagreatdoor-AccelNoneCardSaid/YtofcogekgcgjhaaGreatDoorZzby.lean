/- Packed. -/
import Derived.Test.YtofcogekgcgjhaaGreatDoorCards
import Derived.Test.YtofcogekgcgjhaaGreatDoorTie
import Derived.ProofKit
import Derived.OpenShut
set_option linter.unusedVariables false
set_option linter.unusedSimpArgs false
set_option maxRecDepth 100000
namespace Go.Proofs.YtofcogekgcgjhaaGreatDoor.accelNone
open Go.ChangeShapes Go.WideShapes Go.ChangeAt Go.RowKit
theorem named:(Rows.accelNoneRow.named == (Tryz.pinned.checked.prog).varsNamed 3)=true:=by kernel_rfl
theorem recurses:(Rows.accelNoneRow.recurses == (Tryz.pinned.checked.prog).recurses 3)=true:=by kernel_rfl
end Go.Proofs.YtofcogekgcgjhaaGreatDoor.accelNone
