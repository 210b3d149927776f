/- What the row's lists of laid tables and errors give. -/
import Derived.Test.YteblabpplaaddaaGreatDoorRows
import Derived.Test.YteblabpplaaddaaGreatDoorTb
import Derived.WalkKit
import Derived.ProofKit
import Derived.OpenShut
import Derived.Deep.DeepHandedRow
import Derived.Lib.LaidTab
import Derived.Lib.LaidU8T
import Derived.Lib.LaidCaseMet
import Derived.PinnedBridge
import Derived.Stop.LaidErr
import Derived.ChangeMaps5
set_option linter.unusedVariables false
set_option linter.unusedSimpArgs false
namespace Go.Proofs.YteblabpplaaddaaGreatDoor
open Go.RowKit Go.Mine Go.Mine.Sc

theorem caseL : Lays.n274 Tryz.prog Tryz.tlLays_ren := { Tryz.tlLays with }
theorem u8L : U8Types Tryz.prog Tryz.tlLays_ren := { Tryz.tlLays with }
theorem caseX : CaseExtra Tryz.prog Tryz.tlLays_ren := ⟨by kernel_rfl, by kernel_rfl, by kernel_rfl, by kernel_rfl, by kernel_rfl, by kernel_rfl⟩
theorem u8X : U8Extra Tryz.prog Tryz.tlLays_ren := ⟨by kernel_rfl, by kernel_rfl, by kernel_rfl, by kernel_rfl, by kernel_rfl, by kernel_rfl, by kernel_rfl⟩
theorem own : ownKnob Tryz.prog.godebug = none := by kernel_rfl
theorem gPow : Tryz.prog.globalNamed "internal/strconv.uint64pow10" = some 5 := by kernel_rfl
theorem gPowType : (Tryz.prog.globals[5]?).map (·.type) = some 163 := by kernel_rfl
theorem cells163 : Tryz.prog.cellsOf 163 = 20 := by kernel_rfl
theorem cells133 : Tryz.prog.cellsOf 133 = 1 := by kernel_rfl
theorem gES : Tryz.prog.globalNamed "strconv.ErrSyntax" = some 3 := by kernel_rfl
theorem gESType : (Tryz.prog.globals[3]?).map (·.type) = some 77 := by kernel_rfl
theorem gER : Tryz.prog.globalNamed "strconv.ErrRange" = some 4 := by kernel_rfl
theorem gERType : (Tryz.prog.globals[4]?).map (·.type) = some 77 := by kernel_rfl
theorem cells168 : Tryz.prog.cellsOf 168 = 1 := by kernel_rfl
theorem cells9 : Tryz.prog.cellsOf 9 = 1 := by kernel_rfl
theorem starName : "*" ++ "errors.errorString" = "*errors.errorString" := by decide
theorem row166 (u : TypeId) (h : Tryz.prog.typeName? 3 u = some "*errors.errorString") : u = 166 :=
  typeName_ptr_named (nm := "errors.errorString") (by rw [starName]; kernel_rfl) (by kernel_rfl) (by decide) u (by rw [starName]; exact h)

theorem tables_of_laid {W : World} (h : laidMet Tryz.prog Rows.scriptParsesRow.laid W) : Tables W := by
  have hp : Lib.TabIs Tryz.prog W "internal/strconv.uint64pow10" .u64 Lib.pow10Tab := Lib.tabIs_of_head gPow gPowType Tryz.underlying163 Tryz.underlying133 cells133 cells163 h.tail.tail
  obtain ⟨a0, s0, hv0, -, -, -⟩ := laid_sentinel h.tail.tail.tail.tail gER gERType Tryz.underlying77 row166 Tryz.underlying166 Tryz.underlying168 rfl rfl Tryz.underlying9 cells168 cells9
  obtain ⟨a1, s1, hv1, -, -, -⟩ := laid_sentinel h.tail.tail.tail.tail.tail gES gESType Tryz.underlying77 row166 Tryz.underlying166 Tryz.underlying168 rfl rfl Tryz.underlying9 cells168 cells9
  have hc : Lib.VarReads Tryz.prog W "unicode.CaseRanges" Lib.caseData := by rw [← Pinned.caseRanges_eq]; exact Lib.laidMet.reads h (by unfold Rows.scriptParsesRow; exact .tail _ (.tail _ (.tail _ (.tail _ (.tail _ (.tail _ (.head _)))))))
  have hf : Lib.VarReads Tryz.prog W "unicode/utf8.first" Lib.firstData := by rw [← Pinned.utf8First_eq]; exact Lib.laidMet.reads h (by unfold Rows.scriptParsesRow; exact .tail _ (.tail _ (.tail _ (.tail _ (.tail _ (.tail _ (.tail _ (.head _))))))))
  have ha : Lib.VarReads Tryz.prog W "unicode/utf8.acceptRanges" Lib.acceptData := Lib.laidMet.reads h (by unfold Rows.scriptParsesRow; exact .tail _ (.tail _ (.tail _ (.head _))))
  exact ⟨hp, ⟨_, _, hv1⟩, ⟨_, _, hv0⟩, caseVar_of_reads caseL (by kernel_rfl) caseX hc, utf8Tabs_of_readsT u8L u8X hf ha⟩
end Go.Proofs.YteblabpplaaddaaGreatDoor
