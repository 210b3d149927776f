/-
  DERIVED. GIVEN WITH THE SEED: THE CARDS: each row of YtofcogekgcgjhaaGreatDoorRows.lean that lists a variable, with what it lists TIED to the program's text (the seventh form; the later family's looks); each row that meets fmt, with fmt's text TOLD by the authors' own Lean function (tested against real Go, not proved from fmt's source: count such statements apart). THE CARD IS WHAT COUNTS. Prove the row's statement (the work); the ties are given (YtofcogekgcgjhaaGreatDoorTie.lean); close each card by the builder's one call (the guide's Derived/Test/ToyasCard.lean, 'card_holds'). Laid BY PROGRAM, IN A SANDBOX (cutbox-door.mjs). By AI agents, Wed Nov 11 2026. No macro, syntax, notation, axiom, sorry.
-/
import Derived.Test.YtofcogekgcgjhaaGreatDoorRows
import GoSem.ClaimSeven
namespace Go.Proofs.YtofcogekgcgjhaaGreatDoor
namespace Rows

/-- THE TIED CARD OF 'pedigreelaw17.AccelNone'. -/
def accelNoneCard : Claim7 := { stood := { row := accelNoneRow, standIns := [], harness := (true, "384e668dff54e1de380fc9b5e3f9aa937605b155e1d0fb8823061ca54c8bdcaf"), looks := true }, kinds := [], alts := [], laidByText := true, laidKinds := [.data, .data, .data, .sentinel, .sentinel], laidTests := true, laidLooks := .later }
def AccelNoneCardSaid : Prop := Claim7.holds Tryz.pinned (.plain (OpenSpec.ofChange accelNoneSpec)) accelNoneCard

/-- THE TIED CARD OF 'pedigreelaw17.AccelCrash'. -/
def accelCrashCard : Claim7 := { stood := { row := accelCrashRow, standIns := [], harness := (true, "384e668dff54e1de380fc9b5e3f9aa937605b155e1d0fb8823061ca54c8bdcaf"), looks := true }, kinds := [], alts := [], laidByText := true, laidKinds := [.data, .data, .data, .sentinel, .sentinel], laidTests := true, laidLooks := .later }
def AccelCrashCardSaid : Prop := Claim7.holds Tryz.pinned (.plain (OpenSpec.ofChange accelCrashSpec)) accelCrashCard

/-- THE TIED CARD OF 'pedigreelaw17.AccelFull'. -/
def accelFullCard : Claim7 := { stood := { row := accelFullRow, standIns := [], harness := (true, "384e668dff54e1de380fc9b5e3f9aa937605b155e1d0fb8823061ca54c8bdcaf"), looks := true }, kinds := [], alts := [], laidByText := true, laidKinds := [.data, .data, .data, .sentinel, .sentinel], laidTests := true, laidLooks := .later }
def AccelFullCardSaid : Prop := Claim7.holds Tryz.pinned (.plain (OpenSpec.ofChange accelFullSpec)) accelFullCard

/-- THE TIED CARD OF 'pedigreelaw18.ViewNone'. -/
def viewNoneCard : Claim7 := { stood := { row := viewNoneRow, standIns := [], harness := (true, "384e668dff54e1de380fc9b5e3f9aa937605b155e1d0fb8823061ca54c8bdcaf"), looks := true }, kinds := [], alts := [], laidByText := true, laidKinds := [.data, .data, .data, .sentinel, .sentinel], laidTests := true, laidLooks := .later }
def ViewNoneCardSaid : Prop := Claim7.holds Tryz.pinned (.plain (OpenSpec.ofChange viewNoneSpec)) viewNoneCard

/-- THE TIED CARD OF 'pedigreelaw17.AccelPlays'. -/
def accelPlaysCard : Claim7 := { stood := { row := accelPlaysRow, standIns := [], harness := (true, "384e668dff54e1de380fc9b5e3f9aa937605b155e1d0fb8823061ca54c8bdcaf"), looks := true }, kinds := [], alts := [], laidByText := true, laidKinds := [.data, .data, .data, .sentinel, .sentinel], laidTests := true, laidLooks := .later }
def AccelPlaysCardSaid : Prop := Claim7.holds Tryz.pinned (.plain (OpenSpec.ofChange accelPlaysSpec)) accelPlaysCard

/-- THE TIED CARD OF 'pedigreelaw17.AccelMemory'. -/
def accelMemoryCard : Claim7 := { stood := { row := accelMemoryRow, standIns := [], harness := (true, "384e668dff54e1de380fc9b5e3f9aa937605b155e1d0fb8823061ca54c8bdcaf"), looks := true }, kinds := [], alts := [], laidByText := true, laidKinds := [.data, .data, .data, .sentinel, .sentinel], laidTests := true, laidLooks := .later }
def AccelMemoryCardSaid : Prop := Claim7.holds Tryz.pinned (.plain (OpenSpec.ofChange accelMemorySpec)) accelMemoryCard

/-- THE TIED CARD OF 'pedigreelaw18.ViewPlays'. -/
def viewPlaysCard : Claim7 := { stood := { row := viewPlaysRow, standIns := [], harness := (true, "384e668dff54e1de380fc9b5e3f9aa937605b155e1d0fb8823061ca54c8bdcaf"), looks := true }, kinds := [], alts := [], laidByText := true, laidKinds := [.data, .data, .data, .sentinel, .sentinel], laidTests := true, laidLooks := .later }
def ViewPlaysCardSaid : Prop := Claim7.holds Tryz.pinned (.plain (OpenSpec.ofChange viewPlaysSpec)) viewPlaysCard

/-- THE TIED CARD OF 'pedigreelaw18.ViewGood'. -/
def viewGoodCard : Claim7 := { stood := { row := viewGoodRow, standIns := [], harness := (true, "384e668dff54e1de380fc9b5e3f9aa937605b155e1d0fb8823061ca54c8bdcaf"), looks := true }, kinds := [], alts := [], laidByText := true, laidKinds := [.data, .data, .data, .sentinel, .sentinel], laidTests := true, laidLooks := .later }
def ViewGoodCardSaid : Prop := Claim7.holds Tryz.pinned (.plain (OpenSpec.ofChange viewGoodSpec)) viewGoodCard

/-- THE TIED CARD OF 'pedigreelaw18.ViewMemory'. -/
def viewMemoryCard : Claim7 := { stood := { row := viewMemoryRow, standIns := [], harness := (true, "384e668dff54e1de380fc9b5e3f9aa937605b155e1d0fb8823061ca54c8bdcaf"), looks := true }, kinds := [], alts := [], laidByText := true, laidKinds := [.data, .data, .data, .sentinel, .sentinel], laidTests := true, laidLooks := .later }
def ViewMemoryCardSaid : Prop := Claim7.holds Tryz.pinned (.plain (OpenSpec.ofChange viewMemorySpec)) viewMemoryCard

/-- THE SECOND FORM's CARD OF 'pedigreelaw17.AccelNone'. -/
def accelNoneUptoCard : Claim7 := { stood := { row := accelNoneUptoRow, standIns := [], harness := (true, "384e668dff54e1de380fc9b5e3f9aa937605b155e1d0fb8823061ca54c8bdcaf"), looks := true }, kinds := [], alts := [], laidByText := true, laidKinds := [.data, .data, .data, .sentinel, .sentinel], laidTests := true, laidLooks := .later }
def AccelNoneUptoCardSaid : Prop := Claim7.holds Tryz.pinned (.plain (OpenSpec.upto accelNoneSpec)) accelNoneUptoCard

/-- THE SECOND FORM's CARD OF 'pedigreelaw17.AccelCrash'. -/
def accelCrashUptoCard : Claim7 := { stood := { row := accelCrashUptoRow, standIns := [], harness := (true, "384e668dff54e1de380fc9b5e3f9aa937605b155e1d0fb8823061ca54c8bdcaf"), looks := true }, kinds := [], alts := [], laidByText := true, laidKinds := [.data, .data, .data, .sentinel, .sentinel], laidTests := true, laidLooks := .later }
def AccelCrashUptoCardSaid : Prop := Claim7.holds Tryz.pinned (.plain (OpenSpec.upto accelCrashSpec)) accelCrashUptoCard

/-- THE SECOND FORM's CARD OF 'pedigreelaw17.AccelFull'. -/
def accelFullUptoCard : Claim7 := { stood := { row := accelFullUptoRow, standIns := [], harness := (true, "384e668dff54e1de380fc9b5e3f9aa937605b155e1d0fb8823061ca54c8bdcaf"), looks := true }, kinds := [], alts := [], laidByText := true, laidKinds := [.data, .data, .data, .sentinel, .sentinel], laidTests := true, laidLooks := .later }
def AccelFullUptoCardSaid : Prop := Claim7.holds Tryz.pinned (.plain (OpenSpec.upto accelFullSpec)) accelFullUptoCard

/-- THE SECOND FORM's CARD OF 'pedigreelaw18.ViewNone'. -/
def viewNoneUptoCard : Claim7 := { stood := { row := viewNoneUptoRow, standIns := [], harness := (true, "384e668dff54e1de380fc9b5e3f9aa937605b155e1d0fb8823061ca54c8bdcaf"), looks := true }, kinds := [], alts := [], laidByText := true, laidKinds := [.data, .data, .data, .sentinel, .sentinel], laidTests := true, laidLooks := .later }
def ViewNoneUptoCardSaid : Prop := Claim7.holds Tryz.pinned (.plain (OpenSpec.upto viewNoneSpec)) viewNoneUptoCard

/-- THE SECOND FORM's CARD OF 'pedigreelaw17.AccelPlays'. -/
def accelPlaysUptoCard : Claim7 := { stood := { row := accelPlaysUptoRow, standIns := [], harness := (true, "384e668dff54e1de380fc9b5e3f9aa937605b155e1d0fb8823061ca54c8bdcaf"), looks := true }, kinds := [], alts := [], laidByText := true, laidKinds := [.data, .data, .data, .sentinel, .sentinel], laidTests := true, laidLooks := .later }
def AccelPlaysUptoCardSaid : Prop := Claim7.holds Tryz.pinned (.plain (OpenSpec.upto accelPlaysSpec)) accelPlaysUptoCard

/-- THE SECOND FORM's CARD OF 'pedigreelaw17.AccelMemory'. -/
def accelMemoryUptoCard : Claim7 := { stood := { row := accelMemoryUptoRow, standIns := [], harness := (true, "384e668dff54e1de380fc9b5e3f9aa937605b155e1d0fb8823061ca54c8bdcaf"), looks := true }, kinds := [], alts := [], laidByText := true, laidKinds := [.data, .data, .data, .sentinel, .sentinel], laidTests := true, laidLooks := .later }
def AccelMemoryUptoCardSaid : Prop := Claim7.holds Tryz.pinned (.plain (OpenSpec.upto accelMemorySpec)) accelMemoryUptoCard

/-- THE SECOND FORM's CARD OF 'pedigreelaw18.ViewPlays'. -/
def viewPlaysUptoCard : Claim7 := { stood := { row := viewPlaysUptoRow, standIns := [], harness := (true, "384e668dff54e1de380fc9b5e3f9aa937605b155e1d0fb8823061ca54c8bdcaf"), looks := true }, kinds := [], alts := [], laidByText := true, laidKinds := [.data, .data, .data, .sentinel, .sentinel], laidTests := true, laidLooks := .later }
def ViewPlaysUptoCardSaid : Prop := Claim7.holds Tryz.pinned (.plain (OpenSpec.upto viewPlaysSpec)) viewPlaysUptoCard

/-- THE SECOND FORM's CARD OF 'pedigreelaw18.ViewGood'. -/
def viewGoodUptoCard : Claim7 := { stood := { row := viewGoodUptoRow, standIns := [], harness := (true, "384e668dff54e1de380fc9b5e3f9aa937605b155e1d0fb8823061ca54c8bdcaf"), looks := true }, kinds := [], alts := [], laidByText := true, laidKinds := [.data, .data, .data, .sentinel, .sentinel], laidTests := true, laidLooks := .later }
def ViewGoodUptoCardSaid : Prop := Claim7.holds Tryz.pinned (.plain (OpenSpec.upto viewGoodSpec)) viewGoodUptoCard

/-- THE SECOND FORM's CARD OF 'pedigreelaw18.ViewMemory'. -/
def viewMemoryUptoCard : Claim7 := { stood := { row := viewMemoryUptoRow, standIns := [], harness := (true, "384e668dff54e1de380fc9b5e3f9aa937605b155e1d0fb8823061ca54c8bdcaf"), looks := true }, kinds := [], alts := [], laidByText := true, laidKinds := [.data, .data, .data, .sentinel, .sentinel], laidTests := true, laidLooks := .later }
def ViewMemoryUptoCardSaid : Prop := Claim7.holds Tryz.pinned (.plain (OpenSpec.upto viewMemorySpec)) viewMemoryUptoCard
end Rows
end Go.Proofs.YtofcogekgcgjhaaGreatDoor
