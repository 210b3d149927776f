/-
  DERIVED. GIVEN WITH THE SEED: THE CARDS: each row of YtfeljngmidhajaaDoorRows.lean that lists a variable, with what it lists TIED to the program's text (the seventh form; the later family's looks); each row that meets fmt, with fmt's text TOLD by the authors' own Lean function (tested against real Go, not proved from fmt's source: count such statements apart). THE CARD IS WHAT COUNTS. Prove the row's statement (the work); the ties are given (YtfeljngmidhajaaDoorTie.lean); close each card by the builder's one call (the guide's Derived/Test/ToyasCard.lean, 'card_holds'). Laid BY PROGRAM, IN A SANDBOX (cutbox-door.mjs). By AI agents, Wed Nov 11 2026. No macro, syntax, notation, axiom, sorry.
-/
import Derived.Test.YtfeljngmidhajaaDoorRows
import GoSem.ClaimSeven
namespace Go.Proofs.YtfeljngmidhajaaDoor
namespace Rows

/-- THE TIED CARD OF 'pedigreelaw16.ChainDecodes'. -/
def chainDecodesCard : Claim7 := { stood := { row := chainDecodesRow, standIns := [], harness := (true, "00550722599e72b86990a55c2b0023a8204ba1eda20331da9a59b556e4667712"), looks := true }, kinds := [], alts := [], laidByText := true, laidKinds := [.data, .data, .data], laidTests := true, laidLooks := .later }
def ChainDecodesCardSaid : Prop := Claim7.holds Tryd.pinned (.plain (OpenSpec.ofChange chainDecodesSpec)) chainDecodesCard

/-- THE TIED CARD OF 'pedigreelaw16.ChainBack'. -/
def chainBackCard : Claim7 := { stood := { row := chainBackRow, standIns := [], harness := (true, "00550722599e72b86990a55c2b0023a8204ba1eda20331da9a59b556e4667712"), looks := true }, kinds := [], alts := [], laidByText := true, laidKinds := [.data, .data, .data], laidTests := true, laidLooks := .later }
def ChainBackCardSaid : Prop := Claim7.holds Tryd.pinned (.plain (OpenSpec.ofChange chainBackSpec)) chainBackCard

/-- THE TIED CARD OF 'pedigreelaw16.ChainNames'. -/
def chainNamesCard : Claim7 := { stood := { row := chainNamesRow, standIns := [], harness := (true, "00550722599e72b86990a55c2b0023a8204ba1eda20331da9a59b556e4667712"), looks := true }, kinds := [], alts := [], laidByText := true, laidKinds := [.data, .data, .data, .sentinel, .sentinel], laidTests := true, laidLooks := .later }
def ChainNamesCardSaid : Prop := Claim7.holds Tryd.pinned (.plain (OpenSpec.ofChange chainNamesSpec)) chainNamesCard

/-- THE SECOND FORM's CARD OF 'pedigreelaw16.ChainDecodes'. -/
def chainDecodesUptoCard : Claim7 := { stood := { row := chainDecodesUptoRow, standIns := [], harness := (true, "00550722599e72b86990a55c2b0023a8204ba1eda20331da9a59b556e4667712"), looks := true }, kinds := [], alts := [], laidByText := true, laidKinds := [.data, .data, .data], laidTests := true, laidLooks := .later }
def ChainDecodesUptoCardSaid : Prop := Claim7.holds Tryd.pinned (.plain (OpenSpec.upto chainDecodesSpec)) chainDecodesUptoCard

/-- THE SECOND FORM's CARD OF 'pedigreelaw16.ChainBack'. -/
def chainBackUptoCard : Claim7 := { stood := { row := chainBackUptoRow, standIns := [], harness := (true, "00550722599e72b86990a55c2b0023a8204ba1eda20331da9a59b556e4667712"), looks := true }, kinds := [], alts := [], laidByText := true, laidKinds := [.data, .data, .data], laidTests := true, laidLooks := .later }
def ChainBackUptoCardSaid : Prop := Claim7.holds Tryd.pinned (.plain (OpenSpec.upto chainBackSpec)) chainBackUptoCard

/-- THE SECOND FORM's CARD OF 'pedigreelaw16.ChainNames'. -/
def chainNamesUptoCard : Claim7 := { stood := { row := chainNamesUptoRow, standIns := [], harness := (true, "00550722599e72b86990a55c2b0023a8204ba1eda20331da9a59b556e4667712"), looks := true }, kinds := [], alts := [], laidByText := true, laidKinds := [.data, .data, .data, .sentinel, .sentinel], laidTests := true, laidLooks := .later }
def ChainNamesUptoCardSaid : Prop := Claim7.holds Tryd.pinned (.plain (OpenSpec.upto chainNamesSpec)) chainNamesUptoCard
end Rows
end Go.Proofs.YtfeljngmidhajaaDoor
