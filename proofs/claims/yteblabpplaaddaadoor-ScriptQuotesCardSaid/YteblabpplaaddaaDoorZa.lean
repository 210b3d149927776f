/- What the row's lists of laid tables and errors give. -/
import Derived.Test.YteblabpplaaddaaDoorRows
import Derived.Test.YteblabpplaaddaaDoorTb
import Derived.WalkKit
import Derived.ProofKit
import Derived.OpenShut
import Derived.Deep.DeepHandedRow
import Derived.Lib.LaidTab
import Derived.Lib.LaidU8T
import Derived.Lib.LaidCaseMet
import Derived.PinnedBridge
import Derived.Stop.LaidErr
import Derived.ChangeMaps5
set_option linter.unusedVariables false
set_option linter.unusedSimpArgs false
namespace Go.Proofs.YteblabpplaaddaaDoor
open Go.RowKit Go.Mine Go.Mine.Sc

theorem caseL : Lays.n274 Tryd.prog Tryd.tlLays_ren := { Tryd.tlLays with }
theorem u8L : U8Types Tryd.prog Tryd.tlLays_ren := { Tryd.tlLays with }
theorem caseX : CaseExtra Tryd.prog Tryd.tlLays_ren := ⟨by kernel_rfl, by kernel_rfl, by kernel_rfl, by kernel_rfl, by kernel_rfl, by kernel_rfl⟩
theorem u8X : U8Extra Tryd.prog Tryd.tlLays_ren := ⟨by kernel_rfl, by kernel_rfl, by kernel_rfl, by kernel_rfl, by kernel_rfl, by kernel_rfl, by kernel_rfl⟩
theorem own : ownKnob Tryd.prog.godebug = none := by kernel_rfl
theorem gPow : Tryd.prog.globalNamed "internal/strconv.uint64pow10" = some 5 := by kernel_rfl
theorem gPowType : (Tryd.prog.globals[5]?).map (·.type) = some 117 := by kernel_rfl
theorem cells117 : Tryd.prog.cellsOf 117 = 20 := by kernel_rfl
theorem cells77 : Tryd.prog.cellsOf 77 = 1 := by kernel_rfl
theorem gES : Tryd.prog.globalNamed "strconv.ErrSyntax" = some 3 := by kernel_rfl
theorem gESType : (Tryd.prog.globals[3]?).map (·.type) = some 67 := by kernel_rfl
theorem gER : Tryd.prog.globalNamed "strconv.ErrRange" = some 4 := by kernel_rfl
theorem gERType : (Tryd.prog.globals[4]?).map (·.type) = some 67 := by kernel_rfl
theorem cells115 : Tryd.prog.cellsOf 115 = 1 := by kernel_rfl
theorem cells9 : Tryd.prog.cellsOf 9 = 1 := by kernel_rfl
theorem starName : "*" ++ "errors.errorString" = "*errors.errorString" := by decide
theorem row113 (u : TypeId) (h : Tryd.prog.typeName? 3 u = some "*errors.errorString") : u = 113 :=
  typeName_ptr_named (nm := "errors.errorString") (by rw [starName]; kernel_rfl) (by kernel_rfl) (by decide) u (by rw [starName]; exact h)

theorem tables_of_laid {W : World} (h : laidMet Tryd.prog Rows.scriptQuotesRow.laid W) : Tables W := by
  have hp : Lib.TabIs Tryd.prog W "internal/strconv.uint64pow10" .u64 Lib.pow10Tab := Lib.tabIs_of_head gPow gPowType Tryd.underlying117 Tryd.underlying77 cells77 cells117 h.tail.tail
  obtain ⟨a0, s0, hv0, -, -, -⟩ := laid_sentinel h.tail.tail.tail.tail gER gERType Tryd.underlying67 row113 Tryd.underlying113 Tryd.underlying115 rfl rfl Tryd.underlying9 cells115 cells9
  obtain ⟨a1, s1, hv1, -, -, -⟩ := laid_sentinel h.tail.tail.tail.tail.tail gES gESType Tryd.underlying67 row113 Tryd.underlying113 Tryd.underlying115 rfl rfl Tryd.underlying9 cells115 cells9
  have hc : Lib.VarReads Tryd.prog W "unicode.CaseRanges" Lib.caseData := by rw [← Pinned.caseRanges_eq]; exact Lib.laidMet.reads h (by unfold Rows.scriptQuotesRow; exact .tail _ (.tail _ (.tail _ (.tail _ (.tail _ (.tail _ (.head _)))))))
  have hf : Lib.VarReads Tryd.prog W "unicode/utf8.first" Lib.firstData := by rw [← Pinned.utf8First_eq]; exact Lib.laidMet.reads h (by unfold Rows.scriptQuotesRow; exact .tail _ (.tail _ (.tail _ (.tail _ (.tail _ (.tail _ (.tail _ (.head _))))))))
  have ha : Lib.VarReads Tryd.prog W "unicode/utf8.acceptRanges" Lib.acceptData := Lib.laidMet.reads h (by unfold Rows.scriptQuotesRow; exact .tail _ (.tail _ (.tail _ (.head _))))
  exact ⟨hp, ⟨_, _, hv1⟩, ⟨_, _, hv0⟩, caseVar_of_reads caseL (by kernel_rfl) caseX hc, utf8Tabs_of_readsT u8L u8X hf ha⟩
end Go.Proofs.YteblabpplaaddaaDoor
