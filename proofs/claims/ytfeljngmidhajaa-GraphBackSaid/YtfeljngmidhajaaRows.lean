/-
  No cell of these rows narrows 'for every input' (looked for: loops, veiled, ifaces, maps, wideKeys, modest, calm, conditions, laid).
  DERIVED. THE GIVEN ROWS OF THIS SEAT. 12 by the template 'for every input the law returns true; each argument reads behind the call as it read before'; 0 by the template 'total and deterministic' (their statements: YtfeljngmidhajaaTotals.lean).
  GIVEN WITH THE SEED: the statements are not yours to turn. If you find one false, say at which input.
  Laid BY PROGRAM, IN A SANDBOX (cutbox-rows.mjs): the forced cells as the released guide's own fill.sh prints them over the translation eb1aa434a815dd90… (all of the seat's roots in one cut). By AI agents, Wed Nov 11 2026. No macro, syntax, notation, axiom, sorry.
-/
import Derived.Test.YtfeljngmidhajaaChecked
import GoSem.Claim
import GoSem.ClaimJoined
import GoSem.ClaimMapViews
import Derived.JoinedTies
import Derived.KernelRfl
namespace Go.Proofs.Ytfeljngmidhajaa
/- THE CELL 'sum', in the pinned program and in every row, IS THE sha256 OF THE DUMP (.gsa) THAT YtfeljngmidhajaaProg.lean LOADS. Nothing in Lean hashes anything: it is a label: what it is worth is what the hold of that sum in a sandbox is worth. -/
noncomputable def Try.pinned : Pinned := { name := "ytfeljngmidhajaa", sum := "eb1aa434a815dd9047cf0f087b9101296e8aeb00b678c18f5b8536cfa11239b8", checked := Try.checked }
namespace Rows
def none {H : Type} : Left H := { results := [], args := [] }

/-- 'pedigreelaw14.ChunkBuilds': WHATEVER THE INPUT: true; the input reads as it did. -/
def chunkBuildsSpec : ChangeSpec := { name := "chunkBuilds", fn := fun _ => fun
  | [d] => { results := [.lit (.bool true)], args := [d] }
  | _ => none }
def chunkBuildsRow : OpenClaim := { program := "ytfeljngmidhajaa", sum := "eb1aa434a815dd9047cf0f087b9101296e8aeb00b678c18f5b8536cfa11239b8", func := "pedigree/pedigreelaw14.ChunkBuilds", spec := "chunkBuilds", unfollowed := true, recurses := true, apart := false }
def ChunkBuildsSaid : Prop := chunkBuildsRow.holds Try.pinned (OpenSpec.ofChange chunkBuildsSpec)

/-- ITS FALSE NEIGHBOUR: 'it returns false'. Refute it at one input. -/
def chunkBuildsWrong : ChangeSpec := { name := "chunkBuilds", fn := fun _ => fun
  | [d] => { results := [.lit (.bool false)], args := [d] }
  | _ => none }
def ChunkBuildsWrongFalsely : Prop := chunkBuildsRow.holds Try.pinned (OpenSpec.ofChange chunkBuildsWrong)

/-- 'pedigreelaw14.ChunkFinds': WHATEVER THE INPUT: true; the input reads as it did. -/
def chunkFindsSpec : ChangeSpec := { name := "chunkFinds", fn := fun _ => fun
  | [d1, d2] => { results := [.lit (.bool true)], args := [d1, d2] }
  | _ => none }
def chunkFindsRow : OpenClaim := { program := "ytfeljngmidhajaa", sum := "eb1aa434a815dd9047cf0f087b9101296e8aeb00b678c18f5b8536cfa11239b8", func := "pedigree/pedigreelaw14.ChunkFinds", spec := "chunkFinds", unfollowed := true, recurses := true, apart := false }
def ChunkFindsSaid : Prop := chunkFindsRow.holds Try.pinned (OpenSpec.ofChange chunkFindsSpec)

/-- ITS FALSE NEIGHBOUR: 'it returns false'. Refute it at one input. -/
def chunkFindsWrong : ChangeSpec := { name := "chunkFinds", fn := fun _ => fun
  | [d1, d2] => { results := [.lit (.bool false)], args := [d1, d2] }
  | _ => none }
def ChunkFindsWrongFalsely : Prop := chunkFindsRow.holds Try.pinned (OpenSpec.ofChange chunkFindsWrong)

/-- 'pedigreelaw15.GraphEncodes': WHATEVER THE INPUT: true; the input reads as it did. -/
def graphEncodesSpec : ChangeSpec := { name := "graphEncodes", fn := fun _ => fun
  | [d] => { results := [.lit (.bool true)], args := [d] }
  | _ => none }
def graphEncodesRow : OpenClaim := { program := "ytfeljngmidhajaa", sum := "eb1aa434a815dd9047cf0f087b9101296e8aeb00b678c18f5b8536cfa11239b8", func := "pedigree/pedigreelaw15.GraphEncodes", spec := "graphEncodes", unfollowed := true, recurses := true, apart := false }
def GraphEncodesSaid : Prop := graphEncodesRow.holds Try.pinned (OpenSpec.ofChange graphEncodesSpec)

/-- ITS FALSE NEIGHBOUR: 'it returns false'. Refute it at one input. -/
def graphEncodesWrong : ChangeSpec := { name := "graphEncodes", fn := fun _ => fun
  | [d] => { results := [.lit (.bool false)], args := [d] }
  | _ => none }
def GraphEncodesWrongFalsely : Prop := graphEncodesRow.holds Try.pinned (OpenSpec.ofChange graphEncodesWrong)

/-- 'pedigreelaw14.ChunkParses': WHATEVER THE INPUT: true; the input reads as it did. -/
def chunkParsesSpec : ChangeSpec := { name := "chunkParses", fn := fun _ => fun
  | [d] => { results := [.lit (.bool true)], args := [d] }
  | _ => none }
def chunkParsesRow : OpenClaim := { program := "ytfeljngmidhajaa", sum := "eb1aa434a815dd9047cf0f087b9101296e8aeb00b678c18f5b8536cfa11239b8", func := "pedigree/pedigreelaw14.ChunkParses", spec := "chunkParses", unfollowed := true, recurses := true, apart := false }
def ChunkParsesSaid : Prop := chunkParsesRow.holds Try.pinned (OpenSpec.ofChange chunkParsesSpec)

/-- ITS FALSE NEIGHBOUR: 'it returns false'. Refute it at one input. -/
def chunkParsesWrong : ChangeSpec := { name := "chunkParses", fn := fun _ => fun
  | [d] => { results := [.lit (.bool false)], args := [d] }
  | _ => none }
def ChunkParsesWrongFalsely : Prop := chunkParsesRow.holds Try.pinned (OpenSpec.ofChange chunkParsesWrong)

/-- 'pedigreelaw14.ChunkTurned': WHATEVER THE INPUT: true; the input reads as it did. -/
def chunkTurnedSpec : ChangeSpec := { name := "chunkTurned", fn := fun _ => fun
  | [d1, d2, d3] => { results := [.lit (.bool true)], args := [d1, d2, d3] }
  | _ => none }
def chunkTurnedRow : OpenClaim := { program := "ytfeljngmidhajaa", sum := "eb1aa434a815dd9047cf0f087b9101296e8aeb00b678c18f5b8536cfa11239b8", func := "pedigree/pedigreelaw14.ChunkTurned", spec := "chunkTurned", unfollowed := true, recurses := true, apart := false }
def ChunkTurnedSaid : Prop := chunkTurnedRow.holds Try.pinned (OpenSpec.ofChange chunkTurnedSpec)

/-- ITS FALSE NEIGHBOUR: 'it returns false'. Refute it at one input. -/
def chunkTurnedWrong : ChangeSpec := { name := "chunkTurned", fn := fun _ => fun
  | [d1, d2, d3] => { results := [.lit (.bool false)], args := [d1, d2, d3] }
  | _ => none }
def ChunkTurnedWrongFalsely : Prop := chunkTurnedRow.holds Try.pinned (OpenSpec.ofChange chunkTurnedWrong)

/-- 'pedigreelaw14.ChunkLimits': WHATEVER THE INPUT: true; the input reads as it did. -/
def chunkLimitsSpec : ChangeSpec := { name := "chunkLimits", fn := fun _ => fun
  | [d1, d2] => { results := [.lit (.bool true)], args := [d1, d2] }
  | _ => none }
def chunkLimitsRow : OpenClaim := { program := "ytfeljngmidhajaa", sum := "eb1aa434a815dd9047cf0f087b9101296e8aeb00b678c18f5b8536cfa11239b8", func := "pedigree/pedigreelaw14.ChunkLimits", spec := "chunkLimits", unfollowed := true, recurses := true, apart := false }
def ChunkLimitsSaid : Prop := chunkLimitsRow.holds Try.pinned (OpenSpec.ofChange chunkLimitsSpec)

/-- ITS FALSE NEIGHBOUR: 'it returns false'. Refute it at one input. -/
def chunkLimitsWrong : ChangeSpec := { name := "chunkLimits", fn := fun _ => fun
  | [d1, d2] => { results := [.lit (.bool false)], args := [d1, d2] }
  | _ => none }
def ChunkLimitsWrongFalsely : Prop := chunkLimitsRow.holds Try.pinned (OpenSpec.ofChange chunkLimitsWrong)

/-- 'pedigreelaw14.ChunkBack': WHATEVER THE INPUT: true; the input reads as it did. -/
def chunkBackSpec : ChangeSpec := { name := "chunkBack", fn := fun _ => fun
  | [d1, d2] => { results := [.lit (.bool true)], args := [d1, d2] }
  | _ => none }
def chunkBackRow : OpenClaim := { program := "ytfeljngmidhajaa", sum := "eb1aa434a815dd9047cf0f087b9101296e8aeb00b678c18f5b8536cfa11239b8", func := "pedigree/pedigreelaw14.ChunkBack", spec := "chunkBack", unfollowed := true, recurses := true, apart := false }
def ChunkBackSaid : Prop := chunkBackRow.holds Try.pinned (OpenSpec.ofChange chunkBackSpec)

/-- ITS FALSE NEIGHBOUR: 'it returns false'. Refute it at one input. -/
def chunkBackWrong : ChangeSpec := { name := "chunkBack", fn := fun _ => fun
  | [d1, d2] => { results := [.lit (.bool false)], args := [d1, d2] }
  | _ => none }
def ChunkBackWrongFalsely : Prop := chunkBackRow.holds Try.pinned (OpenSpec.ofChange chunkBackWrong)

/-- 'pedigreelaw15.GraphSame': WHATEVER THE INPUT: true; the input reads as it did. -/
def graphSameSpec : ChangeSpec := { name := "graphSame", fn := fun _ => fun
  | [d1, d2] => { results := [.lit (.bool true)], args := [d1, d2] }
  | _ => none }
def graphSameRow : OpenClaim := { program := "ytfeljngmidhajaa", sum := "eb1aa434a815dd9047cf0f087b9101296e8aeb00b678c18f5b8536cfa11239b8", func := "pedigree/pedigreelaw15.GraphSame", spec := "graphSame", unfollowed := true, recurses := true, apart := false }
def GraphSameSaid : Prop := graphSameRow.holds Try.pinned (OpenSpec.ofChange graphSameSpec)

/-- ITS FALSE NEIGHBOUR: 'it returns false'. Refute it at one input. -/
def graphSameWrong : ChangeSpec := { name := "graphSame", fn := fun _ => fun
  | [d1, d2] => { results := [.lit (.bool false)], args := [d1, d2] }
  | _ => none }
def GraphSameWrongFalsely : Prop := graphSameRow.holds Try.pinned (OpenSpec.ofChange graphSameWrong)

/-- 'pedigreelaw15.GraphDecodes': WHATEVER THE INPUT: true; the input reads as it did. -/
def graphDecodesSpec : ChangeSpec := { name := "graphDecodes", fn := fun _ => fun
  | [d] => { results := [.lit (.bool true)], args := [d] }
  | _ => none }
def graphDecodesRow : OpenClaim := { program := "ytfeljngmidhajaa", sum := "eb1aa434a815dd9047cf0f087b9101296e8aeb00b678c18f5b8536cfa11239b8", func := "pedigree/pedigreelaw15.GraphDecodes", spec := "graphDecodes", unfollowed := true, recurses := true, apart := false }
def GraphDecodesSaid : Prop := graphDecodesRow.holds Try.pinned (OpenSpec.ofChange graphDecodesSpec)

/-- ITS FALSE NEIGHBOUR: 'it returns false'. Refute it at one input. -/
def graphDecodesWrong : ChangeSpec := { name := "graphDecodes", fn := fun _ => fun
  | [d] => { results := [.lit (.bool false)], args := [d] }
  | _ => none }
def GraphDecodesWrongFalsely : Prop := graphDecodesRow.holds Try.pinned (OpenSpec.ofChange graphDecodesWrong)

/-- 'pedigreelaw15.GraphChunks': WHATEVER THE INPUT: true; the input reads as it did. -/
def graphChunksSpec : ChangeSpec := { name := "graphChunks", fn := fun _ => fun
  | [d] => { results := [.lit (.bool true)], args := [d] }
  | _ => none }
def graphChunksRow : OpenClaim := { program := "ytfeljngmidhajaa", sum := "eb1aa434a815dd9047cf0f087b9101296e8aeb00b678c18f5b8536cfa11239b8", func := "pedigree/pedigreelaw15.GraphChunks", spec := "graphChunks", unfollowed := true, recurses := true, apart := false }
def GraphChunksSaid : Prop := graphChunksRow.holds Try.pinned (OpenSpec.ofChange graphChunksSpec)

/-- ITS FALSE NEIGHBOUR: 'it returns false'. Refute it at one input. -/
def graphChunksWrong : ChangeSpec := { name := "graphChunks", fn := fun _ => fun
  | [d] => { results := [.lit (.bool false)], args := [d] }
  | _ => none }
def GraphChunksWrongFalsely : Prop := graphChunksRow.holds Try.pinned (OpenSpec.ofChange graphChunksWrong)

/-- 'pedigreelaw15.GraphBack': WHATEVER THE INPUT: true; the input reads as it did. -/
def graphBackSpec : ChangeSpec := { name := "graphBack", fn := fun _ => fun
  | [d1, d2] => { results := [.lit (.bool true)], args := [d1, d2] }
  | _ => none }
def graphBackRow : OpenClaim := { program := "ytfeljngmidhajaa", sum := "eb1aa434a815dd9047cf0f087b9101296e8aeb00b678c18f5b8536cfa11239b8", func := "pedigree/pedigreelaw15.GraphBack", spec := "graphBack", unfollowed := true, recurses := true, apart := false }
def GraphBackSaid : Prop := graphBackRow.holds Try.pinned (OpenSpec.ofChange graphBackSpec)

/-- ITS FALSE NEIGHBOUR: 'it returns false'. Refute it at one input. -/
def graphBackWrong : ChangeSpec := { name := "graphBack", fn := fun _ => fun
  | [d1, d2] => { results := [.lit (.bool false)], args := [d1, d2] }
  | _ => none }
def GraphBackWrongFalsely : Prop := graphBackRow.holds Try.pinned (OpenSpec.ofChange graphBackWrong)

/-- 'pedigreelaw15.GraphLimits': WHATEVER THE INPUT: true; the input reads as it did. -/
def graphLimitsSpec : ChangeSpec := { name := "graphLimits", fn := fun _ => fun
  | [d1, d2, d3] => { results := [.lit (.bool true)], args := [d1, d2, d3] }
  | _ => none }
def graphLimitsRow : OpenClaim := { program := "ytfeljngmidhajaa", sum := "eb1aa434a815dd9047cf0f087b9101296e8aeb00b678c18f5b8536cfa11239b8", func := "pedigree/pedigreelaw15.GraphLimits", spec := "graphLimits", unfollowed := true, recurses := true, apart := false }
def GraphLimitsSaid : Prop := graphLimitsRow.holds Try.pinned (OpenSpec.ofChange graphLimitsSpec)

/-- ITS FALSE NEIGHBOUR: 'it returns false'. Refute it at one input. -/
def graphLimitsWrong : ChangeSpec := { name := "graphLimits", fn := fun _ => fun
  | [d1, d2, d3] => { results := [.lit (.bool false)], args := [d1, d2, d3] }
  | _ => none }
def GraphLimitsWrongFalsely : Prop := graphLimitsRow.holds Try.pinned (OpenSpec.ofChange graphLimitsWrong)

/- THE SECOND FORM. 'bulk': how many values and letters a reading holds, each counted each time it is reached (what is shared counts as often as it is met; a slice's spare places count too). A statement '..UptoSaid' is the law's where the arguments, and the package variables that the reading takes, are together of bulk at most 1048576: NARROWER than '..Said'. Prove '..Said' where nothing that the law and all that it calls make is longer than what came in: it says more and counts as full. Else prove '..UptoSaid'. A law counts once. -/
mutual
def uptoBulk {H : Type} : DataW H → Nat
  | .lit (.string bytes) => bytes.length + 1
  | .lit _ => 1
  | .nil => 1
  | .ptr d => uptoBulk d + 1
  | .slice elems spare => uptoBulkAll elems + uptoBulkAll spare + 1
  | .agg parts => uptoBulkAll parts + 1
  | .iface _ d => uptoBulk d + 1
  | .map entries => uptoBulkEntries entries + 1
  | .held _ => 1
def uptoBulkAll {H : Type} : List (DataW H) → Nat
  | [] => 0
  | d :: r => uptoBulk d + uptoBulkAll r
def uptoBulkEntries {H : Type} : List (Lit × DataW H) → Nat
  | [] => 0
  | x :: r => uptoBulkEntry x + uptoBulkEntries r
def uptoBulkEntry {H : Type} : Lit × DataW H → Nat
  | (.string bytes, d) => bytes.length + uptoBulk d + 1
  | (_, d) => uptoBulk d + 1
 end
def uptoSmall : (H : Type) → List (DataW H) → Bool := fun _ ds => decide (uptoBulkAll ds ≤ 1048576)
def OpenSpec.upto (s : _root_.Go.ChangeSpec) : _root_.Go.OpenSpec := { _root_.Go.OpenSpec.ofChange s with cond := some uptoSmall }

/-- 'pedigreelaw14.ChunkBuilds', WHERE WHAT IT READS IS OF BULK AT MOST 1048576: true; the input reads as it did. -/
def chunkBuildsUptoRow : OpenClaim := { program := "ytfeljngmidhajaa", sum := "eb1aa434a815dd9047cf0f087b9101296e8aeb00b678c18f5b8536cfa11239b8", func := "pedigree/pedigreelaw14.ChunkBuilds", spec := "chunkBuilds", unfollowed := true, recurses := true, apart := false, narrowed := true }
def ChunkBuildsUptoSaid : Prop := chunkBuildsUptoRow.holds Try.pinned (OpenSpec.upto chunkBuildsSpec)

/-- 'pedigreelaw14.ChunkFinds', WHERE WHAT IT READS IS OF BULK AT MOST 1048576: true; the input reads as it did. -/
def chunkFindsUptoRow : OpenClaim := { program := "ytfeljngmidhajaa", sum := "eb1aa434a815dd9047cf0f087b9101296e8aeb00b678c18f5b8536cfa11239b8", func := "pedigree/pedigreelaw14.ChunkFinds", spec := "chunkFinds", unfollowed := true, recurses := true, apart := false, narrowed := true }
def ChunkFindsUptoSaid : Prop := chunkFindsUptoRow.holds Try.pinned (OpenSpec.upto chunkFindsSpec)

/-- 'pedigreelaw15.GraphEncodes', WHERE WHAT IT READS IS OF BULK AT MOST 1048576: true; the input reads as it did. -/
def graphEncodesUptoRow : OpenClaim := { program := "ytfeljngmidhajaa", sum := "eb1aa434a815dd9047cf0f087b9101296e8aeb00b678c18f5b8536cfa11239b8", func := "pedigree/pedigreelaw15.GraphEncodes", spec := "graphEncodes", unfollowed := true, recurses := true, apart := false, narrowed := true }
def GraphEncodesUptoSaid : Prop := graphEncodesUptoRow.holds Try.pinned (OpenSpec.upto graphEncodesSpec)

/-- 'pedigreelaw14.ChunkParses', WHERE WHAT IT READS IS OF BULK AT MOST 1048576: true; the input reads as it did. -/
def chunkParsesUptoRow : OpenClaim := { program := "ytfeljngmidhajaa", sum := "eb1aa434a815dd9047cf0f087b9101296e8aeb00b678c18f5b8536cfa11239b8", func := "pedigree/pedigreelaw14.ChunkParses", spec := "chunkParses", unfollowed := true, recurses := true, apart := false, narrowed := true }
def ChunkParsesUptoSaid : Prop := chunkParsesUptoRow.holds Try.pinned (OpenSpec.upto chunkParsesSpec)

/-- 'pedigreelaw14.ChunkTurned', WHERE WHAT IT READS IS OF BULK AT MOST 1048576: true; the input reads as it did. -/
def chunkTurnedUptoRow : OpenClaim := { program := "ytfeljngmidhajaa", sum := "eb1aa434a815dd9047cf0f087b9101296e8aeb00b678c18f5b8536cfa11239b8", func := "pedigree/pedigreelaw14.ChunkTurned", spec := "chunkTurned", unfollowed := true, recurses := true, apart := false, narrowed := true }
def ChunkTurnedUptoSaid : Prop := chunkTurnedUptoRow.holds Try.pinned (OpenSpec.upto chunkTurnedSpec)

/-- 'pedigreelaw14.ChunkLimits', WHERE WHAT IT READS IS OF BULK AT MOST 1048576: true; the input reads as it did. -/
def chunkLimitsUptoRow : OpenClaim := { program := "ytfeljngmidhajaa", sum := "eb1aa434a815dd9047cf0f087b9101296e8aeb00b678c18f5b8536cfa11239b8", func := "pedigree/pedigreelaw14.ChunkLimits", spec := "chunkLimits", unfollowed := true, recurses := true, apart := false, narrowed := true }
def ChunkLimitsUptoSaid : Prop := chunkLimitsUptoRow.holds Try.pinned (OpenSpec.upto chunkLimitsSpec)

/-- 'pedigreelaw14.ChunkBack', WHERE WHAT IT READS IS OF BULK AT MOST 1048576: true; the input reads as it did. -/
def chunkBackUptoRow : OpenClaim := { program := "ytfeljngmidhajaa", sum := "eb1aa434a815dd9047cf0f087b9101296e8aeb00b678c18f5b8536cfa11239b8", func := "pedigree/pedigreelaw14.ChunkBack", spec := "chunkBack", unfollowed := true, recurses := true, apart := false, narrowed := true }
def ChunkBackUptoSaid : Prop := chunkBackUptoRow.holds Try.pinned (OpenSpec.upto chunkBackSpec)

/-- 'pedigreelaw15.GraphSame', WHERE WHAT IT READS IS OF BULK AT MOST 1048576: true; the input reads as it did. -/
def graphSameUptoRow : OpenClaim := { program := "ytfeljngmidhajaa", sum := "eb1aa434a815dd9047cf0f087b9101296e8aeb00b678c18f5b8536cfa11239b8", func := "pedigree/pedigreelaw15.GraphSame", spec := "graphSame", unfollowed := true, recurses := true, apart := false, narrowed := true }
def GraphSameUptoSaid : Prop := graphSameUptoRow.holds Try.pinned (OpenSpec.upto graphSameSpec)

/-- 'pedigreelaw15.GraphDecodes', WHERE WHAT IT READS IS OF BULK AT MOST 1048576: true; the input reads as it did. -/
def graphDecodesUptoRow : OpenClaim := { program := "ytfeljngmidhajaa", sum := "eb1aa434a815dd9047cf0f087b9101296e8aeb00b678c18f5b8536cfa11239b8", func := "pedigree/pedigreelaw15.GraphDecodes", spec := "graphDecodes", unfollowed := true, recurses := true, apart := false, narrowed := true }
def GraphDecodesUptoSaid : Prop := graphDecodesUptoRow.holds Try.pinned (OpenSpec.upto graphDecodesSpec)

/-- 'pedigreelaw15.GraphChunks', WHERE WHAT IT READS IS OF BULK AT MOST 1048576: true; the input reads as it did. -/
def graphChunksUptoRow : OpenClaim := { program := "ytfeljngmidhajaa", sum := "eb1aa434a815dd9047cf0f087b9101296e8aeb00b678c18f5b8536cfa11239b8", func := "pedigree/pedigreelaw15.GraphChunks", spec := "graphChunks", unfollowed := true, recurses := true, apart := false, narrowed := true }
def GraphChunksUptoSaid : Prop := graphChunksUptoRow.holds Try.pinned (OpenSpec.upto graphChunksSpec)

/-- 'pedigreelaw15.GraphBack', WHERE WHAT IT READS IS OF BULK AT MOST 1048576: true; the input reads as it did. -/
def graphBackUptoRow : OpenClaim := { program := "ytfeljngmidhajaa", sum := "eb1aa434a815dd9047cf0f087b9101296e8aeb00b678c18f5b8536cfa11239b8", func := "pedigree/pedigreelaw15.GraphBack", spec := "graphBack", unfollowed := true, recurses := true, apart := false, narrowed := true }
def GraphBackUptoSaid : Prop := graphBackUptoRow.holds Try.pinned (OpenSpec.upto graphBackSpec)

/-- 'pedigreelaw15.GraphLimits', WHERE WHAT IT READS IS OF BULK AT MOST 1048576: true; the input reads as it did. -/
def graphLimitsUptoRow : OpenClaim := { program := "ytfeljngmidhajaa", sum := "eb1aa434a815dd9047cf0f087b9101296e8aeb00b678c18f5b8536cfa11239b8", func := "pedigree/pedigreelaw15.GraphLimits", spec := "graphLimits", unfollowed := true, recurses := true, apart := false, narrowed := true }
def GraphLimitsUptoSaid : Prop := graphLimitsUptoRow.holds Try.pinned (OpenSpec.upto graphLimitsSpec)

end Rows
end Go.Proofs.Ytfeljngmidhajaa
