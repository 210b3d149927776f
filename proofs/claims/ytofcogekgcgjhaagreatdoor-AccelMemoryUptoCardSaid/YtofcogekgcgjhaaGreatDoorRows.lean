/-
  NARROWER THAN 'FOR EVERY INPUT', by the rows' own cells (each row's printed sentence says how): AccelNone: laid · AccelCrash: laid · AccelFull: laid · ViewNone: laid · AccelPlays: laid · AccelMemory: laid · ViewPlays: laid · ViewGood: laid · ViewMemory: laid.
  DERIVED. THE GIVEN ROWS OF THIS SEAT. 9 by the template 'for every input the law returns true; each argument reads behind the call as it read before'; 0 by the template 'total and deterministic' (their statements: YtofcogekgcgjhaaGreatDoorTotals.lean).
  GIVEN WITH THE SEED: the statements are not yours to turn. If you find one false, say at which input.
  Laid BY PROGRAM, IN A SANDBOX (cutbox-rows.mjs): the forced cells as the released guide's own fill.sh prints them over the translation 054136bc8e8cc410… (all of the seat's roots in one cut). By AI agents, Wed Nov 11 2026. No macro, syntax, notation, axiom, sorry.
-/
import Derived.Test.YtofcogekgcgjhaaGreatDoorChecked
import GoSem.Claim
import GoSem.ClaimJoined
import GoSem.ClaimMapViews
import Derived.JoinedTies
import Derived.KernelRfl
namespace Go.Proofs.YtofcogekgcgjhaaGreatDoor
/- THE CELL 'sum', in the pinned program and in every row, IS THE sha256 OF THE DUMP (.gsa) THAT YtofcogekgcgjhaaGreatDoorProg.lean LOADS. Nothing in Lean hashes anything: it is a label: what it is worth is what the hold of that sum in a sandbox is worth. -/
noncomputable def Tryz.pinned : Pinned := { name := "ytofcogekgcgjhaagreatdoor", sum := "054136bc8e8cc41061ecd729f70f539f7fe0c350bc288585e5f17ff496e64c67", checked := Tryz.checked }
namespace Rows
def none {H : Type} : Left H := { results := [], args := [] }

/- WHAT THE LISTED PACKAGE-LEVEL VARIABLES READ AS WHEN THE CALL BEGINS. Each datum BY PROGRAM (the guide's laid-datum.mjs) off the statement by which the dump's own 'gosem.cut.vars' lays the variable. In a bare row this is a premise. The card (YtofcogekgcgjhaaGreatDoorCards.lean) ties it to the program's text. -/
def laid_math_bits_deBruijn32tab {H : Type} : DataW H := .agg [.lit (.int .u8 0), .lit (.int .u8 1), .lit (.int .u8 28), .lit (.int .u8 2), .lit (.int .u8 29), .lit (.int .u8 14), .lit (.int .u8 24), .lit (.int .u8 3), .lit (.int .u8 30), .lit (.int .u8 22), .lit (.int .u8 20), .lit (.int .u8 15), .lit (.int .u8 25), .lit (.int .u8 17), .lit (.int .u8 4), .lit (.int .u8 8), .lit (.int .u8 31), .lit (.int .u8 27), .lit (.int .u8 13), .lit (.int .u8 23), .lit (.int .u8 21), .lit (.int .u8 19), .lit (.int .u8 16), .lit (.int .u8 7), .lit (.int .u8 26), .lit (.int .u8 12), .lit (.int .u8 18), .lit (.int .u8 6), .lit (.int .u8 11), .lit (.int .u8 5), .lit (.int .u8 10), .lit (.int .u8 9)]
def laid_math_bits_deBruijn64tab {H : Type} : DataW H := .agg [.lit (.int .u8 0), .lit (.int .u8 1), .lit (.int .u8 56), .lit (.int .u8 2), .lit (.int .u8 57), .lit (.int .u8 49), .lit (.int .u8 28), .lit (.int .u8 3), .lit (.int .u8 61), .lit (.int .u8 58), .lit (.int .u8 42), .lit (.int .u8 50), .lit (.int .u8 38), .lit (.int .u8 29), .lit (.int .u8 17), .lit (.int .u8 4), .lit (.int .u8 62), .lit (.int .u8 47), .lit (.int .u8 59), .lit (.int .u8 36), .lit (.int .u8 45), .lit (.int .u8 43), .lit (.int .u8 51), .lit (.int .u8 22), .lit (.int .u8 53), .lit (.int .u8 39), .lit (.int .u8 33), .lit (.int .u8 30), .lit (.int .u8 24), .lit (.int .u8 18), .lit (.int .u8 12), .lit (.int .u8 5), .lit (.int .u8 63), .lit (.int .u8 55), .lit (.int .u8 48), .lit (.int .u8 27), .lit (.int .u8 60), .lit (.int .u8 41), .lit (.int .u8 37), .lit (.int .u8 16), .lit (.int .u8 46), .lit (.int .u8 35), .lit (.int .u8 44), .lit (.int .u8 21), .lit (.int .u8 52), .lit (.int .u8 32), .lit (.int .u8 23), .lit (.int .u8 11), .lit (.int .u8 54), .lit (.int .u8 26), .lit (.int .u8 40), .lit (.int .u8 15), .lit (.int .u8 34), .lit (.int .u8 20), .lit (.int .u8 31), .lit (.int .u8 10), .lit (.int .u8 25), .lit (.int .u8 14), .lit (.int .u8 19), .lit (.int .u8 9), .lit (.int .u8 13), .lit (.int .u8 8), .lit (.int .u8 7), .lit (.int .u8 6)]
def laid_internal_strconv_uint64pow10 {H : Type} : DataW H := .agg [.lit (.int .u64 1), .lit (.int .u64 10), .lit (.int .u64 100), .lit (.int .u64 1000), .lit (.int .u64 10000), .lit (.int .u64 100000), .lit (.int .u64 1000000), .lit (.int .u64 10000000), .lit (.int .u64 100000000), .lit (.int .u64 1000000000), .lit (.int .u64 10000000000), .lit (.int .u64 100000000000), .lit (.int .u64 1000000000000), .lit (.int .u64 10000000000000), .lit (.int .u64 100000000000000), .lit (.int .u64 1000000000000000), .lit (.int .u64 10000000000000000), .lit (.int .u64 100000000000000000), .lit (.int .u64 1000000000000000000), .lit (.int .u64 10000000000000000000)]
def laid_strconv_ErrRange {H : Type} : DataW H := .iface "*errors.errorString" (.ptr (.agg [.lit (.string [118, 97, 108, 117, 101, 32, 111, 117, 116, 32, 111, 102, 32, 114, 97, 110, 103, 101])]))
def laid_strconv_ErrSyntax {H : Type} : DataW H := .iface "*errors.errorString" (.ptr (.agg [.lit (.string [105, 110, 118, 97, 108, 105, 100, 32, 115, 121, 110, 116, 97, 120])]))

/-- 'pedigreelaw17.AccelNone': WHATEVER THE INPUT: true; the input reads as it did. -/
def accelNoneSpec : ChangeSpec := { name := "accelNone", fn := fun _ => fun
  | [d1, d2, d3] => { results := [.lit (.bool true)], args := [d1, d2, d3] }
  | _ => none }
def accelNoneRow : OpenClaim := { program := "ytofcogekgcgjhaagreatdoor", sum := "054136bc8e8cc41061ecd729f70f539f7fe0c350bc288585e5f17ff496e64c67", func := "pedigree/pedigreelaw17.AccelNone", spec := "accelNone", inPlace := ["maps.clone", "internal/bytealg.abigen_runtime_cmpstring"], unfollowed := true, recurses := true, named := ["internal/strconv.uint64pow10", "math/bits.deBruijn32tab", "math/bits.deBruijn64tab", "strconv.ErrSyntax", "strconv.ErrRange"], apart := false, laid := [("math/bits.deBruijn32tab", laid_math_bits_deBruijn32tab), ("math/bits.deBruijn64tab", laid_math_bits_deBruijn64tab), ("internal/strconv.uint64pow10", laid_internal_strconv_uint64pow10), ("strconv.ErrRange", laid_strconv_ErrRange), ("strconv.ErrSyntax", laid_strconv_ErrSyntax)] }
def AccelNoneSaid : Prop := accelNoneRow.holds Tryz.pinned (OpenSpec.ofChange accelNoneSpec)

/-- ITS FALSE NEIGHBOUR: 'it returns false'. Refute it at one input. -/
def accelNoneWrong : ChangeSpec := { name := "accelNone", fn := fun _ => fun
  | [d1, d2, d3] => { results := [.lit (.bool false)], args := [d1, d2, d3] }
  | _ => none }
def AccelNoneWrongFalsely : Prop := accelNoneRow.holds Tryz.pinned (OpenSpec.ofChange accelNoneWrong)

/-- 'pedigreelaw17.AccelCrash': WHATEVER THE INPUT: true; the input reads as it did. -/
def accelCrashSpec : ChangeSpec := { name := "accelCrash", fn := fun _ => fun
  | [d1, d2, d3] => { results := [.lit (.bool true)], args := [d1, d2, d3] }
  | _ => none }
def accelCrashRow : OpenClaim := { program := "ytofcogekgcgjhaagreatdoor", sum := "054136bc8e8cc41061ecd729f70f539f7fe0c350bc288585e5f17ff496e64c67", func := "pedigree/pedigreelaw17.AccelCrash", spec := "accelCrash", inPlace := ["maps.clone", "internal/bytealg.abigen_runtime_cmpstring"], unfollowed := true, recurses := true, named := ["internal/strconv.uint64pow10", "math/bits.deBruijn32tab", "math/bits.deBruijn64tab", "strconv.ErrSyntax", "strconv.ErrRange"], apart := false, laid := [("math/bits.deBruijn32tab", laid_math_bits_deBruijn32tab), ("math/bits.deBruijn64tab", laid_math_bits_deBruijn64tab), ("internal/strconv.uint64pow10", laid_internal_strconv_uint64pow10), ("strconv.ErrRange", laid_strconv_ErrRange), ("strconv.ErrSyntax", laid_strconv_ErrSyntax)] }
def AccelCrashSaid : Prop := accelCrashRow.holds Tryz.pinned (OpenSpec.ofChange accelCrashSpec)

/-- ITS FALSE NEIGHBOUR: 'it returns false'. Refute it at one input. -/
def accelCrashWrong : ChangeSpec := { name := "accelCrash", fn := fun _ => fun
  | [d1, d2, d3] => { results := [.lit (.bool false)], args := [d1, d2, d3] }
  | _ => none }
def AccelCrashWrongFalsely : Prop := accelCrashRow.holds Tryz.pinned (OpenSpec.ofChange accelCrashWrong)

/-- 'pedigreelaw17.AccelFull': WHATEVER THE INPUT: true; the input reads as it did. -/
def accelFullSpec : ChangeSpec := { name := "accelFull", fn := fun _ => fun
  | [d1, d2] => { results := [.lit (.bool true)], args := [d1, d2] }
  | _ => none }
def accelFullRow : OpenClaim := { program := "ytofcogekgcgjhaagreatdoor", sum := "054136bc8e8cc41061ecd729f70f539f7fe0c350bc288585e5f17ff496e64c67", func := "pedigree/pedigreelaw17.AccelFull", spec := "accelFull", inPlace := ["maps.clone", "internal/bytealg.abigen_runtime_cmpstring"], unfollowed := true, recurses := true, named := ["internal/strconv.uint64pow10", "math/bits.deBruijn32tab", "math/bits.deBruijn64tab", "strconv.ErrSyntax", "strconv.ErrRange"], apart := false, laid := [("math/bits.deBruijn32tab", laid_math_bits_deBruijn32tab), ("math/bits.deBruijn64tab", laid_math_bits_deBruijn64tab), ("internal/strconv.uint64pow10", laid_internal_strconv_uint64pow10), ("strconv.ErrRange", laid_strconv_ErrRange), ("strconv.ErrSyntax", laid_strconv_ErrSyntax)] }
def AccelFullSaid : Prop := accelFullRow.holds Tryz.pinned (OpenSpec.ofChange accelFullSpec)

/-- ITS FALSE NEIGHBOUR: 'it returns false'. Refute it at one input. -/
def accelFullWrong : ChangeSpec := { name := "accelFull", fn := fun _ => fun
  | [d1, d2] => { results := [.lit (.bool false)], args := [d1, d2] }
  | _ => none }
def AccelFullWrongFalsely : Prop := accelFullRow.holds Tryz.pinned (OpenSpec.ofChange accelFullWrong)

/-- 'pedigreelaw18.ViewNone': WHATEVER THE INPUT: true; the input reads as it did. -/
def viewNoneSpec : ChangeSpec := { name := "viewNone", fn := fun _ => fun
  | [d1, d2] => { results := [.lit (.bool true)], args := [d1, d2] }
  | _ => none }
def viewNoneRow : OpenClaim := { program := "ytofcogekgcgjhaagreatdoor", sum := "054136bc8e8cc41061ecd729f70f539f7fe0c350bc288585e5f17ff496e64c67", func := "pedigree/pedigreelaw18.ViewNone", spec := "viewNone", inPlace := ["maps.clone", "internal/bytealg.abigen_runtime_cmpstring"], unfollowed := true, recurses := true, named := ["internal/strconv.uint64pow10", "math/bits.deBruijn32tab", "math/bits.deBruijn64tab", "strconv.ErrSyntax", "strconv.ErrRange"], apart := false, laid := [("math/bits.deBruijn32tab", laid_math_bits_deBruijn32tab), ("math/bits.deBruijn64tab", laid_math_bits_deBruijn64tab), ("internal/strconv.uint64pow10", laid_internal_strconv_uint64pow10), ("strconv.ErrRange", laid_strconv_ErrRange), ("strconv.ErrSyntax", laid_strconv_ErrSyntax)] }
def ViewNoneSaid : Prop := viewNoneRow.holds Tryz.pinned (OpenSpec.ofChange viewNoneSpec)

/-- ITS FALSE NEIGHBOUR: 'it returns false'. Refute it at one input. -/
def viewNoneWrong : ChangeSpec := { name := "viewNone", fn := fun _ => fun
  | [d1, d2] => { results := [.lit (.bool false)], args := [d1, d2] }
  | _ => none }
def ViewNoneWrongFalsely : Prop := viewNoneRow.holds Tryz.pinned (OpenSpec.ofChange viewNoneWrong)

/-- 'pedigreelaw17.AccelPlays': WHATEVER THE INPUT: true; the input reads as it did. -/
def accelPlaysSpec : ChangeSpec := { name := "accelPlays", fn := fun _ => fun
  | [d1, d2, d3] => { results := [.lit (.bool true)], args := [d1, d2, d3] }
  | _ => none }
def accelPlaysRow : OpenClaim := { program := "ytofcogekgcgjhaagreatdoor", sum := "054136bc8e8cc41061ecd729f70f539f7fe0c350bc288585e5f17ff496e64c67", func := "pedigree/pedigreelaw17.AccelPlays", spec := "accelPlays", inPlace := ["maps.clone", "internal/bytealg.abigen_runtime_cmpstring"], unfollowed := true, recurses := true, named := ["internal/strconv.uint64pow10", "math/bits.deBruijn32tab", "math/bits.deBruijn64tab", "strconv.ErrSyntax", "strconv.ErrRange"], apart := false, laid := [("math/bits.deBruijn32tab", laid_math_bits_deBruijn32tab), ("math/bits.deBruijn64tab", laid_math_bits_deBruijn64tab), ("internal/strconv.uint64pow10", laid_internal_strconv_uint64pow10), ("strconv.ErrRange", laid_strconv_ErrRange), ("strconv.ErrSyntax", laid_strconv_ErrSyntax)] }
def AccelPlaysSaid : Prop := accelPlaysRow.holds Tryz.pinned (OpenSpec.ofChange accelPlaysSpec)

/-- ITS FALSE NEIGHBOUR: 'it returns false'. Refute it at one input. -/
def accelPlaysWrong : ChangeSpec := { name := "accelPlays", fn := fun _ => fun
  | [d1, d2, d3] => { results := [.lit (.bool false)], args := [d1, d2, d3] }
  | _ => none }
def AccelPlaysWrongFalsely : Prop := accelPlaysRow.holds Tryz.pinned (OpenSpec.ofChange accelPlaysWrong)

/-- 'pedigreelaw17.AccelMemory': WHATEVER THE INPUT: true; the input reads as it did. -/
def accelMemorySpec : ChangeSpec := { name := "accelMemory", fn := fun _ => fun
  | [d1, d2] => { results := [.lit (.bool true)], args := [d1, d2] }
  | _ => none }
def accelMemoryRow : OpenClaim := { program := "ytofcogekgcgjhaagreatdoor", sum := "054136bc8e8cc41061ecd729f70f539f7fe0c350bc288585e5f17ff496e64c67", func := "pedigree/pedigreelaw17.AccelMemory", spec := "accelMemory", inPlace := ["maps.clone", "internal/bytealg.abigen_runtime_cmpstring"], unfollowed := true, recurses := true, named := ["internal/strconv.uint64pow10", "math/bits.deBruijn32tab", "math/bits.deBruijn64tab", "strconv.ErrSyntax", "strconv.ErrRange"], apart := false, laid := [("math/bits.deBruijn32tab", laid_math_bits_deBruijn32tab), ("math/bits.deBruijn64tab", laid_math_bits_deBruijn64tab), ("internal/strconv.uint64pow10", laid_internal_strconv_uint64pow10), ("strconv.ErrRange", laid_strconv_ErrRange), ("strconv.ErrSyntax", laid_strconv_ErrSyntax)] }
def AccelMemorySaid : Prop := accelMemoryRow.holds Tryz.pinned (OpenSpec.ofChange accelMemorySpec)

/-- ITS FALSE NEIGHBOUR: 'it returns false'. Refute it at one input. -/
def accelMemoryWrong : ChangeSpec := { name := "accelMemory", fn := fun _ => fun
  | [d1, d2] => { results := [.lit (.bool false)], args := [d1, d2] }
  | _ => none }
def AccelMemoryWrongFalsely : Prop := accelMemoryRow.holds Tryz.pinned (OpenSpec.ofChange accelMemoryWrong)

/-- 'pedigreelaw18.ViewPlays': WHATEVER THE INPUT: true; the input reads as it did. -/
def viewPlaysSpec : ChangeSpec := { name := "viewPlays", fn := fun _ => fun
  | [d1, d2] => { results := [.lit (.bool true)], args := [d1, d2] }
  | _ => none }
def viewPlaysRow : OpenClaim := { program := "ytofcogekgcgjhaagreatdoor", sum := "054136bc8e8cc41061ecd729f70f539f7fe0c350bc288585e5f17ff496e64c67", func := "pedigree/pedigreelaw18.ViewPlays", spec := "viewPlays", inPlace := ["maps.clone", "internal/bytealg.abigen_runtime_cmpstring"], unfollowed := true, recurses := true, named := ["internal/strconv.uint64pow10", "math/bits.deBruijn32tab", "math/bits.deBruijn64tab", "strconv.ErrSyntax", "strconv.ErrRange"], apart := false, laid := [("math/bits.deBruijn32tab", laid_math_bits_deBruijn32tab), ("math/bits.deBruijn64tab", laid_math_bits_deBruijn64tab), ("internal/strconv.uint64pow10", laid_internal_strconv_uint64pow10), ("strconv.ErrRange", laid_strconv_ErrRange), ("strconv.ErrSyntax", laid_strconv_ErrSyntax)] }
def ViewPlaysSaid : Prop := viewPlaysRow.holds Tryz.pinned (OpenSpec.ofChange viewPlaysSpec)

/-- ITS FALSE NEIGHBOUR: 'it returns false'. Refute it at one input. -/
def viewPlaysWrong : ChangeSpec := { name := "viewPlays", fn := fun _ => fun
  | [d1, d2] => { results := [.lit (.bool false)], args := [d1, d2] }
  | _ => none }
def ViewPlaysWrongFalsely : Prop := viewPlaysRow.holds Tryz.pinned (OpenSpec.ofChange viewPlaysWrong)

/-- 'pedigreelaw18.ViewGood': WHATEVER THE INPUT: true; the input reads as it did. -/
def viewGoodSpec : ChangeSpec := { name := "viewGood", fn := fun _ => fun
  | [d] => { results := [.lit (.bool true)], args := [d] }
  | _ => none }
def viewGoodRow : OpenClaim := { program := "ytofcogekgcgjhaagreatdoor", sum := "054136bc8e8cc41061ecd729f70f539f7fe0c350bc288585e5f17ff496e64c67", func := "pedigree/pedigreelaw18.ViewGood", spec := "viewGood", inPlace := ["maps.clone", "internal/bytealg.abigen_runtime_cmpstring"], unfollowed := true, recurses := true, named := ["internal/strconv.uint64pow10", "math/bits.deBruijn32tab", "math/bits.deBruijn64tab", "strconv.ErrSyntax", "strconv.ErrRange"], apart := false, laid := [("math/bits.deBruijn32tab", laid_math_bits_deBruijn32tab), ("math/bits.deBruijn64tab", laid_math_bits_deBruijn64tab), ("internal/strconv.uint64pow10", laid_internal_strconv_uint64pow10), ("strconv.ErrRange", laid_strconv_ErrRange), ("strconv.ErrSyntax", laid_strconv_ErrSyntax)] }
def ViewGoodSaid : Prop := viewGoodRow.holds Tryz.pinned (OpenSpec.ofChange viewGoodSpec)

/-- ITS FALSE NEIGHBOUR: 'it returns false'. Refute it at one input. -/
def viewGoodWrong : ChangeSpec := { name := "viewGood", fn := fun _ => fun
  | [d] => { results := [.lit (.bool false)], args := [d] }
  | _ => none }
def ViewGoodWrongFalsely : Prop := viewGoodRow.holds Tryz.pinned (OpenSpec.ofChange viewGoodWrong)

/-- 'pedigreelaw18.ViewMemory': WHATEVER THE INPUT: true; the input reads as it did. -/
def viewMemorySpec : ChangeSpec := { name := "viewMemory", fn := fun _ => fun
  | [d1, d2] => { results := [.lit (.bool true)], args := [d1, d2] }
  | _ => none }
def viewMemoryRow : OpenClaim := { program := "ytofcogekgcgjhaagreatdoor", sum := "054136bc8e8cc41061ecd729f70f539f7fe0c350bc288585e5f17ff496e64c67", func := "pedigree/pedigreelaw18.ViewMemory", spec := "viewMemory", inPlace := ["maps.clone", "internal/bytealg.abigen_runtime_cmpstring"], unfollowed := true, recurses := true, named := ["internal/strconv.uint64pow10", "math/bits.deBruijn32tab", "math/bits.deBruijn64tab", "strconv.ErrSyntax", "strconv.ErrRange"], apart := false, laid := [("math/bits.deBruijn32tab", laid_math_bits_deBruijn32tab), ("math/bits.deBruijn64tab", laid_math_bits_deBruijn64tab), ("internal/strconv.uint64pow10", laid_internal_strconv_uint64pow10), ("strconv.ErrRange", laid_strconv_ErrRange), ("strconv.ErrSyntax", laid_strconv_ErrSyntax)] }
def ViewMemorySaid : Prop := viewMemoryRow.holds Tryz.pinned (OpenSpec.ofChange viewMemorySpec)

/-- ITS FALSE NEIGHBOUR: 'it returns false'. Refute it at one input. -/
def viewMemoryWrong : ChangeSpec := { name := "viewMemory", fn := fun _ => fun
  | [d1, d2] => { results := [.lit (.bool false)], args := [d1, d2] }
  | _ => none }
def ViewMemoryWrongFalsely : Prop := viewMemoryRow.holds Tryz.pinned (OpenSpec.ofChange viewMemoryWrong)

/- THE SECOND FORM. 'bulk': how many values and letters a reading holds, each counted each time it is reached (what is shared counts as often as it is met; a slice's spare places count too). A statement '..UptoSaid' is the law's where the arguments, and the package variables that the reading takes, are together of bulk at most 1048576: NARROWER than '..Said'. Prove '..Said' where nothing that the law and all that it calls make is longer than what came in: it says more and counts as full. Else prove '..UptoSaid'. A law counts once. -/
mutual
def uptoBulk {H : Type} : DataW H → Nat
  | .lit (.string bytes) => bytes.length + 1
  | .lit _ => 1
  | .nil => 1
  | .ptr d => uptoBulk d + 1
  | .slice elems spare => uptoBulkAll elems + uptoBulkAll spare + 1
  | .agg parts => uptoBulkAll parts + 1
  | .iface _ d => uptoBulk d + 1
  | .map entries => uptoBulkEntries entries + 1
  | .held _ => 1
def uptoBulkAll {H : Type} : List (DataW H) → Nat
  | [] => 0
  | d :: r => uptoBulk d + uptoBulkAll r
def uptoBulkEntries {H : Type} : List (Lit × DataW H) → Nat
  | [] => 0
  | x :: r => uptoBulkEntry x + uptoBulkEntries r
def uptoBulkEntry {H : Type} : Lit × DataW H → Nat
  | (.string bytes, d) => bytes.length + uptoBulk d + 1
  | (_, d) => uptoBulk d + 1
 end
def uptoSmall : (H : Type) → List (DataW H) → Bool := fun _ ds => decide (uptoBulkAll ds ≤ 1048576)
def OpenSpec.upto (s : _root_.Go.ChangeSpec) : _root_.Go.OpenSpec := { _root_.Go.OpenSpec.ofChange s with cond := some uptoSmall }

/-- 'pedigreelaw17.AccelNone', WHERE WHAT IT READS IS OF BULK AT MOST 1048576: true; the input reads as it did. -/
def accelNoneUptoRow : OpenClaim := { program := "ytofcogekgcgjhaagreatdoor", sum := "054136bc8e8cc41061ecd729f70f539f7fe0c350bc288585e5f17ff496e64c67", func := "pedigree/pedigreelaw17.AccelNone", spec := "accelNone", inPlace := ["maps.clone", "internal/bytealg.abigen_runtime_cmpstring"], unfollowed := true, recurses := true, named := ["internal/strconv.uint64pow10", "math/bits.deBruijn32tab", "math/bits.deBruijn64tab", "strconv.ErrSyntax", "strconv.ErrRange"], apart := false, laid := [("math/bits.deBruijn32tab", laid_math_bits_deBruijn32tab), ("math/bits.deBruijn64tab", laid_math_bits_deBruijn64tab), ("internal/strconv.uint64pow10", laid_internal_strconv_uint64pow10), ("strconv.ErrRange", laid_strconv_ErrRange), ("strconv.ErrSyntax", laid_strconv_ErrSyntax)], narrowed := true }
def AccelNoneUptoSaid : Prop := accelNoneUptoRow.holds Tryz.pinned (OpenSpec.upto accelNoneSpec)

/-- 'pedigreelaw17.AccelCrash', WHERE WHAT IT READS IS OF BULK AT MOST 1048576: true; the input reads as it did. -/
def accelCrashUptoRow : OpenClaim := { program := "ytofcogekgcgjhaagreatdoor", sum := "054136bc8e8cc41061ecd729f70f539f7fe0c350bc288585e5f17ff496e64c67", func := "pedigree/pedigreelaw17.AccelCrash", spec := "accelCrash", inPlace := ["maps.clone", "internal/bytealg.abigen_runtime_cmpstring"], unfollowed := true, recurses := true, named := ["internal/strconv.uint64pow10", "math/bits.deBruijn32tab", "math/bits.deBruijn64tab", "strconv.ErrSyntax", "strconv.ErrRange"], apart := false, laid := [("math/bits.deBruijn32tab", laid_math_bits_deBruijn32tab), ("math/bits.deBruijn64tab", laid_math_bits_deBruijn64tab), ("internal/strconv.uint64pow10", laid_internal_strconv_uint64pow10), ("strconv.ErrRange", laid_strconv_ErrRange), ("strconv.ErrSyntax", laid_strconv_ErrSyntax)], narrowed := true }
def AccelCrashUptoSaid : Prop := accelCrashUptoRow.holds Tryz.pinned (OpenSpec.upto accelCrashSpec)

/-- 'pedigreelaw17.AccelFull', WHERE WHAT IT READS IS OF BULK AT MOST 1048576: true; the input reads as it did. -/
def accelFullUptoRow : OpenClaim := { program := "ytofcogekgcgjhaagreatdoor", sum := "054136bc8e8cc41061ecd729f70f539f7fe0c350bc288585e5f17ff496e64c67", func := "pedigree/pedigreelaw17.AccelFull", spec := "accelFull", inPlace := ["maps.clone", "internal/bytealg.abigen_runtime_cmpstring"], unfollowed := true, recurses := true, named := ["internal/strconv.uint64pow10", "math/bits.deBruijn32tab", "math/bits.deBruijn64tab", "strconv.ErrSyntax", "strconv.ErrRange"], apart := false, laid := [("math/bits.deBruijn32tab", laid_math_bits_deBruijn32tab), ("math/bits.deBruijn64tab", laid_math_bits_deBruijn64tab), ("internal/strconv.uint64pow10", laid_internal_strconv_uint64pow10), ("strconv.ErrRange", laid_strconv_ErrRange), ("strconv.ErrSyntax", laid_strconv_ErrSyntax)], narrowed := true }
def AccelFullUptoSaid : Prop := accelFullUptoRow.holds Tryz.pinned (OpenSpec.upto accelFullSpec)

/-- 'pedigreelaw18.ViewNone', WHERE WHAT IT READS IS OF BULK AT MOST 1048576: true; the input reads as it did. -/
def viewNoneUptoRow : OpenClaim := { program := "ytofcogekgcgjhaagreatdoor", sum := "054136bc8e8cc41061ecd729f70f539f7fe0c350bc288585e5f17ff496e64c67", func := "pedigree/pedigreelaw18.ViewNone", spec := "viewNone", inPlace := ["maps.clone", "internal/bytealg.abigen_runtime_cmpstring"], unfollowed := true, recurses := true, named := ["internal/strconv.uint64pow10", "math/bits.deBruijn32tab", "math/bits.deBruijn64tab", "strconv.ErrSyntax", "strconv.ErrRange"], apart := false, laid := [("math/bits.deBruijn32tab", laid_math_bits_deBruijn32tab), ("math/bits.deBruijn64tab", laid_math_bits_deBruijn64tab), ("internal/strconv.uint64pow10", laid_internal_strconv_uint64pow10), ("strconv.ErrRange", laid_strconv_ErrRange), ("strconv.ErrSyntax", laid_strconv_ErrSyntax)], narrowed := true }
def ViewNoneUptoSaid : Prop := viewNoneUptoRow.holds Tryz.pinned (OpenSpec.upto viewNoneSpec)

/-- 'pedigreelaw17.AccelPlays', WHERE WHAT IT READS IS OF BULK AT MOST 1048576: true; the input reads as it did. -/
def accelPlaysUptoRow : OpenClaim := { program := "ytofcogekgcgjhaagreatdoor", sum := "054136bc8e8cc41061ecd729f70f539f7fe0c350bc288585e5f17ff496e64c67", func := "pedigree/pedigreelaw17.AccelPlays", spec := "accelPlays", inPlace := ["maps.clone", "internal/bytealg.abigen_runtime_cmpstring"], unfollowed := true, recurses := true, named := ["internal/strconv.uint64pow10", "math/bits.deBruijn32tab", "math/bits.deBruijn64tab", "strconv.ErrSyntax", "strconv.ErrRange"], apart := false, laid := [("math/bits.deBruijn32tab", laid_math_bits_deBruijn32tab), ("math/bits.deBruijn64tab", laid_math_bits_deBruijn64tab), ("internal/strconv.uint64pow10", laid_internal_strconv_uint64pow10), ("strconv.ErrRange", laid_strconv_ErrRange), ("strconv.ErrSyntax", laid_strconv_ErrSyntax)], narrowed := true }
def AccelPlaysUptoSaid : Prop := accelPlaysUptoRow.holds Tryz.pinned (OpenSpec.upto accelPlaysSpec)

/-- 'pedigreelaw17.AccelMemory', WHERE WHAT IT READS IS OF BULK AT MOST 1048576: true; the input reads as it did. -/
def accelMemoryUptoRow : OpenClaim := { program := "ytofcogekgcgjhaagreatdoor", sum := "054136bc8e8cc41061ecd729f70f539f7fe0c350bc288585e5f17ff496e64c67", func := "pedigree/pedigreelaw17.AccelMemory", spec := "accelMemory", inPlace := ["maps.clone", "internal/bytealg.abigen_runtime_cmpstring"], unfollowed := true, recurses := true, named := ["internal/strconv.uint64pow10", "math/bits.deBruijn32tab", "math/bits.deBruijn64tab", "strconv.ErrSyntax", "strconv.ErrRange"], apart := false, laid := [("math/bits.deBruijn32tab", laid_math_bits_deBruijn32tab), ("math/bits.deBruijn64tab", laid_math_bits_deBruijn64tab), ("internal/strconv.uint64pow10", laid_internal_strconv_uint64pow10), ("strconv.ErrRange", laid_strconv_ErrRange), ("strconv.ErrSyntax", laid_strconv_ErrSyntax)], narrowed := true }
def AccelMemoryUptoSaid : Prop := accelMemoryUptoRow.holds Tryz.pinned (OpenSpec.upto accelMemorySpec)

/-- 'pedigreelaw18.ViewPlays', WHERE WHAT IT READS IS OF BULK AT MOST 1048576: true; the input reads as it did. -/
def viewPlaysUptoRow : OpenClaim := { program := "ytofcogekgcgjhaagreatdoor", sum := "054136bc8e8cc41061ecd729f70f539f7fe0c350bc288585e5f17ff496e64c67", func := "pedigree/pedigreelaw18.ViewPlays", spec := "viewPlays", inPlace := ["maps.clone", "internal/bytealg.abigen_runtime_cmpstring"], unfollowed := true, recurses := true, named := ["internal/strconv.uint64pow10", "math/bits.deBruijn32tab", "math/bits.deBruijn64tab", "strconv.ErrSyntax", "strconv.ErrRange"], apart := false, laid := [("math/bits.deBruijn32tab", laid_math_bits_deBruijn32tab), ("math/bits.deBruijn64tab", laid_math_bits_deBruijn64tab), ("internal/strconv.uint64pow10", laid_internal_strconv_uint64pow10), ("strconv.ErrRange", laid_strconv_ErrRange), ("strconv.ErrSyntax", laid_strconv_ErrSyntax)], narrowed := true }
def ViewPlaysUptoSaid : Prop := viewPlaysUptoRow.holds Tryz.pinned (OpenSpec.upto viewPlaysSpec)

/-- 'pedigreelaw18.ViewGood', WHERE WHAT IT READS IS OF BULK AT MOST 1048576: true; the input reads as it did. -/
def viewGoodUptoRow : OpenClaim := { program := "ytofcogekgcgjhaagreatdoor", sum := "054136bc8e8cc41061ecd729f70f539f7fe0c350bc288585e5f17ff496e64c67", func := "pedigree/pedigreelaw18.ViewGood", spec := "viewGood", inPlace := ["maps.clone", "internal/bytealg.abigen_runtime_cmpstring"], unfollowed := true, recurses := true, named := ["internal/strconv.uint64pow10", "math/bits.deBruijn32tab", "math/bits.deBruijn64tab", "strconv.ErrSyntax", "strconv.ErrRange"], apart := false, laid := [("math/bits.deBruijn32tab", laid_math_bits_deBruijn32tab), ("math/bits.deBruijn64tab", laid_math_bits_deBruijn64tab), ("internal/strconv.uint64pow10", laid_internal_strconv_uint64pow10), ("strconv.ErrRange", laid_strconv_ErrRange), ("strconv.ErrSyntax", laid_strconv_ErrSyntax)], narrowed := true }
def ViewGoodUptoSaid : Prop := viewGoodUptoRow.holds Tryz.pinned (OpenSpec.upto viewGoodSpec)

/-- 'pedigreelaw18.ViewMemory', WHERE WHAT IT READS IS OF BULK AT MOST 1048576: true; the input reads as it did. -/
def viewMemoryUptoRow : OpenClaim := { program := "ytofcogekgcgjhaagreatdoor", sum := "054136bc8e8cc41061ecd729f70f539f7fe0c350bc288585e5f17ff496e64c67", func := "pedigree/pedigreelaw18.ViewMemory", spec := "viewMemory", inPlace := ["maps.clone", "internal/bytealg.abigen_runtime_cmpstring"], unfollowed := true, recurses := true, named := ["internal/strconv.uint64pow10", "math/bits.deBruijn32tab", "math/bits.deBruijn64tab", "strconv.ErrSyntax", "strconv.ErrRange"], apart := false, laid := [("math/bits.deBruijn32tab", laid_math_bits_deBruijn32tab), ("math/bits.deBruijn64tab", laid_math_bits_deBruijn64tab), ("internal/strconv.uint64pow10", laid_internal_strconv_uint64pow10), ("strconv.ErrRange", laid_strconv_ErrRange), ("strconv.ErrSyntax", laid_strconv_ErrSyntax)], narrowed := true }
def ViewMemoryUptoSaid : Prop := viewMemoryUptoRow.holds Tryz.pinned (OpenSpec.upto viewMemorySpec)

end Rows
end Go.Proofs.YtofcogekgcgjhaaGreatDoor
