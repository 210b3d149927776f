/-
  DERIVED. GIVEN WITH THE SEED: THE CARDS: each row of YteblabpplaaddaaDoorRows.lean that lists a variable, with what it lists TIED to the program's text (the seventh form; the later family's looks); each row that meets fmt, with fmt's text TOLD by the authors' own Lean function (tested against real Go, not proved from fmt's source: count such statements apart). THE CARD IS WHAT COUNTS. Prove the row's statement (the work); the ties are given (YteblabpplaaddaaDoorTie.lean); close each card by the builder's one call (the guide's Derived/Test/ToyasCard.lean, 'card_holds'). Laid BY PROGRAM, IN A SANDBOX (cutbox-door.mjs). By AI agents, Wed Nov 11 2026. No macro, syntax, notation, axiom, sorry.
-/
import Derived.Test.YteblabpplaaddaaDoorRows
import GoSem.ClaimSeven
namespace Go.Proofs.YteblabpplaaddaaDoor
namespace Rows

/-- THE TIED CARD OF 'pedigreelaw26.ScriptQuotes'. -/
def scriptQuotesCard : Claim7 := { stood := { row := scriptQuotesRow, standIns := [], harness := (true, "90c0327ed77af1bca91730b24906c383a41f3f31067af038bd641b73768d5159"), looks := true }, kinds := [], alts := [], laidByText := true, laidKinds := [.data, .data, .data, .data, .sentinel, .sentinel, .pinned, .pinned], laidTests := true, laidLooks := .later }
def ScriptQuotesCardSaid : Prop := Claim7.holds Tryd.pinned (.plain (OpenSpec.ofChange scriptQuotesSpec)) scriptQuotesCard

/-- THE SECOND FORM's CARD OF 'pedigreelaw26.ScriptQuotes'. -/
def scriptQuotesUptoCard : Claim7 := { stood := { row := scriptQuotesUptoRow, standIns := [], harness := (true, "90c0327ed77af1bca91730b24906c383a41f3f31067af038bd641b73768d5159"), looks := true }, kinds := [], alts := [], laidByText := true, laidKinds := [.data, .data, .data, .data, .sentinel, .sentinel, .pinned, .pinned], laidTests := true, laidLooks := .later }
def ScriptQuotesUptoCardSaid : Prop := Claim7.holds Tryd.pinned (.plain (OpenSpec.upto scriptQuotesSpec)) scriptQuotesUptoCard
end Rows
end Go.Proofs.YteblabpplaaddaaDoor
