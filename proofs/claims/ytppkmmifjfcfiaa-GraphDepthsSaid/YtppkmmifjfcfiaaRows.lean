/-
  No cell of these rows narrows 'for every input' (looked for: loops, veiled, ifaces, maps, wideKeys, modest, calm, conditions, laid).
  DERIVED. THE GIVEN ROWS OF THIS SEAT. 7 by the template 'for every input the law returns true; each argument reads behind the call as it read before'; 0 by the template 'total and deterministic' (their statements: YtppkmmifjfcfiaaTotals.lean).
  GIVEN WITH THE SEED: the statements are not yours to turn. If you find one false, say at which input.
  Laid BY PROGRAM, IN A SANDBOX (cutbox-rows.mjs): the forced cells as the released guide's own fill.sh prints them over the translation 892d21b7a819c5e4… (all of the seat's roots in one cut). By AI agents, Wed Nov 11 2026. No macro, syntax, notation, axiom, sorry.
-/
import Derived.Test.YtppkmmifjfcfiaaChecked
import GoSem.Claim
import GoSem.ClaimJoined
import GoSem.ClaimMapViews
import Derived.JoinedTies
import Derived.KernelRfl
namespace Go.Proofs.Ytppkmmifjfcfiaa
/- THE CELL 'sum', in the pinned program and in every row, IS THE sha256 OF THE DUMP (.gsa) THAT YtppkmmifjfcfiaaProg.lean LOADS. Nothing in Lean hashes anything: it is a label: what it is worth is what the hold of that sum in a sandbox is worth. -/
noncomputable def Try.pinned : Pinned := { name := "ytppkmmifjfcfiaa", sum := "892d21b7a819c5e413985018035fd9855c5a38717c42e02161fb483af7b01799", checked := Try.checked }
namespace Rows
def none {H : Type} : Left H := { results := [], args := [] }

/-- 'slotmeshlaw22.GraphReaching': WHATEVER THE INPUT: true; the input reads as it did. -/
def graphReachingSpec : ChangeSpec := { name := "graphReaching", fn := fun _ => fun
  | [d1, d2] => { results := [.lit (.bool true)], args := [d1, d2] }
  | _ => none }
def graphReachingRow : OpenClaim := { program := "ytppkmmifjfcfiaa", sum := "892d21b7a819c5e413985018035fd9855c5a38717c42e02161fb483af7b01799", func := "slotmesh/slotmeshlaw22.GraphReaching", spec := "graphReaching", unfollowed := true, recurses := true, apart := false }
def GraphReachingSaid : Prop := graphReachingRow.holds Try.pinned (OpenSpec.ofChange graphReachingSpec)

/-- ITS FALSE NEIGHBOUR: 'it returns false'. Refute it at one input. -/
def graphReachingWrong : ChangeSpec := { name := "graphReaching", fn := fun _ => fun
  | [d1, d2] => { results := [.lit (.bool false)], args := [d1, d2] }
  | _ => none }
def GraphReachingWrongFalsely : Prop := graphReachingRow.holds Try.pinned (OpenSpec.ofChange graphReachingWrong)

/-- 'slotmeshlaw22.GraphTrees': WHATEVER THE INPUT: true; the input reads as it did. -/
def graphTreesSpec : ChangeSpec := { name := "graphTrees", fn := fun _ => fun
  | [d1, d2, d3] => { results := [.lit (.bool true)], args := [d1, d2, d3] }
  | _ => none }
def graphTreesRow : OpenClaim := { program := "ytppkmmifjfcfiaa", sum := "892d21b7a819c5e413985018035fd9855c5a38717c42e02161fb483af7b01799", func := "slotmesh/slotmeshlaw22.GraphTrees", spec := "graphTrees", unfollowed := true, recurses := true, apart := false }
def GraphTreesSaid : Prop := graphTreesRow.holds Try.pinned (OpenSpec.ofChange graphTreesSpec)

/-- ITS FALSE NEIGHBOUR: 'it returns false'. Refute it at one input. -/
def graphTreesWrong : ChangeSpec := { name := "graphTrees", fn := fun _ => fun
  | [d1, d2, d3] => { results := [.lit (.bool false)], args := [d1, d2, d3] }
  | _ => none }
def GraphTreesWrongFalsely : Prop := graphTreesRow.holds Try.pinned (OpenSpec.ofChange graphTreesWrong)

/-- 'slotmeshlaw22.GraphMatchesReference': WHATEVER THE INPUT: true; the input reads as it did. -/
def graphMatchesReferenceSpec : ChangeSpec := { name := "graphMatchesReference", fn := fun _ => fun
  | [d1, d2, d3] => { results := [.lit (.bool true)], args := [d1, d2, d3] }
  | _ => none }
def graphMatchesReferenceRow : OpenClaim := { program := "ytppkmmifjfcfiaa", sum := "892d21b7a819c5e413985018035fd9855c5a38717c42e02161fb483af7b01799", func := "slotmesh/slotmeshlaw22.GraphMatchesReference", spec := "graphMatchesReference", unfollowed := true, recurses := true, apart := false }
def GraphMatchesReferenceSaid : Prop := graphMatchesReferenceRow.holds Try.pinned (OpenSpec.ofChange graphMatchesReferenceSpec)

/-- ITS FALSE NEIGHBOUR: 'it returns false'. Refute it at one input. -/
def graphMatchesReferenceWrong : ChangeSpec := { name := "graphMatchesReference", fn := fun _ => fun
  | [d1, d2, d3] => { results := [.lit (.bool false)], args := [d1, d2, d3] }
  | _ => none }
def GraphMatchesReferenceWrongFalsely : Prop := graphMatchesReferenceRow.holds Try.pinned (OpenSpec.ofChange graphMatchesReferenceWrong)

/-- 'slotmeshlaw22.GraphLoops': WHATEVER THE INPUT: true; the input reads as it did. -/
def graphLoopsSpec : ChangeSpec := { name := "graphLoops", fn := fun _ => fun
  | [d] => { results := [.lit (.bool true)], args := [d] }
  | _ => none }
def graphLoopsRow : OpenClaim := { program := "ytppkmmifjfcfiaa", sum := "892d21b7a819c5e413985018035fd9855c5a38717c42e02161fb483af7b01799", func := "slotmesh/slotmeshlaw22.GraphLoops", spec := "graphLoops", unfollowed := true, recurses := true, apart := false }
def GraphLoopsSaid : Prop := graphLoopsRow.holds Try.pinned (OpenSpec.ofChange graphLoopsSpec)

/-- ITS FALSE NEIGHBOUR: 'it returns false'. Refute it at one input. -/
def graphLoopsWrong : ChangeSpec := { name := "graphLoops", fn := fun _ => fun
  | [d] => { results := [.lit (.bool false)], args := [d] }
  | _ => none }
def GraphLoopsWrongFalsely : Prop := graphLoopsRow.holds Try.pinned (OpenSpec.ofChange graphLoopsWrong)

/-- 'slotmeshlaw22.GraphNoLoops': WHATEVER THE INPUT: true; the input reads as it did. -/
def graphNoLoopsSpec : ChangeSpec := { name := "graphNoLoops", fn := fun _ => fun
  | [d1, d2] => { results := [.lit (.bool true)], args := [d1, d2] }
  | _ => none }
def graphNoLoopsRow : OpenClaim := { program := "ytppkmmifjfcfiaa", sum := "892d21b7a819c5e413985018035fd9855c5a38717c42e02161fb483af7b01799", func := "slotmesh/slotmeshlaw22.GraphNoLoops", spec := "graphNoLoops", unfollowed := true, recurses := true, apart := false }
def GraphNoLoopsSaid : Prop := graphNoLoopsRow.holds Try.pinned (OpenSpec.ofChange graphNoLoopsSpec)

/-- ITS FALSE NEIGHBOUR: 'it returns false'. Refute it at one input. -/
def graphNoLoopsWrong : ChangeSpec := { name := "graphNoLoops", fn := fun _ => fun
  | [d1, d2] => { results := [.lit (.bool false)], args := [d1, d2] }
  | _ => none }
def GraphNoLoopsWrongFalsely : Prop := graphNoLoopsRow.holds Try.pinned (OpenSpec.ofChange graphNoLoopsWrong)

/-- 'slotmeshlaw22.GraphDepths': WHATEVER THE INPUT: true; the input reads as it did. -/
def graphDepthsSpec : ChangeSpec := { name := "graphDepths", fn := fun _ => fun
  | [d1, d2] => { results := [.lit (.bool true)], args := [d1, d2] }
  | _ => none }
def graphDepthsRow : OpenClaim := { program := "ytppkmmifjfcfiaa", sum := "892d21b7a819c5e413985018035fd9855c5a38717c42e02161fb483af7b01799", func := "slotmesh/slotmeshlaw22.GraphDepths", spec := "graphDepths", unfollowed := true, recurses := true, apart := false }
def GraphDepthsSaid : Prop := graphDepthsRow.holds Try.pinned (OpenSpec.ofChange graphDepthsSpec)

/-- ITS FALSE NEIGHBOUR: 'it returns false'. Refute it at one input. -/
def graphDepthsWrong : ChangeSpec := { name := "graphDepths", fn := fun _ => fun
  | [d1, d2] => { results := [.lit (.bool false)], args := [d1, d2] }
  | _ => none }
def GraphDepthsWrongFalsely : Prop := graphDepthsRow.holds Try.pinned (OpenSpec.ofChange graphDepthsWrong)

/-- 'slotmeshlaw22.GraphIslands': WHATEVER THE INPUT: true; the input reads as it did. -/
def graphIslandsSpec : ChangeSpec := { name := "graphIslands", fn := fun _ => fun
  | [d] => { results := [.lit (.bool true)], args := [d] }
  | _ => none }
def graphIslandsRow : OpenClaim := { program := "ytppkmmifjfcfiaa", sum := "892d21b7a819c5e413985018035fd9855c5a38717c42e02161fb483af7b01799", func := "slotmesh/slotmeshlaw22.GraphIslands", spec := "graphIslands", unfollowed := true, recurses := true, apart := false }
def GraphIslandsSaid : Prop := graphIslandsRow.holds Try.pinned (OpenSpec.ofChange graphIslandsSpec)

/-- ITS FALSE NEIGHBOUR: 'it returns false'. Refute it at one input. -/
def graphIslandsWrong : ChangeSpec := { name := "graphIslands", fn := fun _ => fun
  | [d] => { results := [.lit (.bool false)], args := [d] }
  | _ => none }
def GraphIslandsWrongFalsely : Prop := graphIslandsRow.holds Try.pinned (OpenSpec.ofChange graphIslandsWrong)

/- THE SECOND FORM. 'bulk': how many values and letters a reading holds, each counted each time it is reached (what is shared counts as often as it is met; a slice's spare places count too). A statement '..UptoSaid' is the law's where the arguments, and the package variables that the reading takes, are together of bulk at most 1048576: NARROWER than '..Said'. Prove '..Said' where nothing that the law and all that it calls make is longer than what came in: it says more and counts as full. Else prove '..UptoSaid'. A law counts once. -/
mutual
def uptoBulk {H : Type} : DataW H → Nat
  | .lit (.string bytes) => bytes.length + 1
  | .lit _ => 1
  | .nil => 1
  | .ptr d => uptoBulk d + 1
  | .slice elems spare => uptoBulkAll elems + uptoBulkAll spare + 1
  | .agg parts => uptoBulkAll parts + 1
  | .iface _ d => uptoBulk d + 1
  | .map entries => uptoBulkEntries entries + 1
  | .held _ => 1
def uptoBulkAll {H : Type} : List (DataW H) → Nat
  | [] => 0
  | d :: r => uptoBulk d + uptoBulkAll r
def uptoBulkEntries {H : Type} : List (Lit × DataW H) → Nat
  | [] => 0
  | x :: r => uptoBulkEntry x + uptoBulkEntries r
def uptoBulkEntry {H : Type} : Lit × DataW H → Nat
  | (.string bytes, d) => bytes.length + uptoBulk d + 1
  | (_, d) => uptoBulk d + 1
 end
def uptoSmall : (H : Type) → List (DataW H) → Bool := fun _ ds => decide (uptoBulkAll ds ≤ 1048576)
def OpenSpec.upto (s : _root_.Go.ChangeSpec) : _root_.Go.OpenSpec := { _root_.Go.OpenSpec.ofChange s with cond := some uptoSmall }

/-- 'slotmeshlaw22.GraphReaching', WHERE WHAT IT READS IS OF BULK AT MOST 1048576: true; the input reads as it did. -/
def graphReachingUptoRow : OpenClaim := { program := "ytppkmmifjfcfiaa", sum := "892d21b7a819c5e413985018035fd9855c5a38717c42e02161fb483af7b01799", func := "slotmesh/slotmeshlaw22.GraphReaching", spec := "graphReaching", unfollowed := true, recurses := true, apart := false, narrowed := true }
def GraphReachingUptoSaid : Prop := graphReachingUptoRow.holds Try.pinned (OpenSpec.upto graphReachingSpec)

/-- 'slotmeshlaw22.GraphTrees', WHERE WHAT IT READS IS OF BULK AT MOST 1048576: true; the input reads as it did. -/
def graphTreesUptoRow : OpenClaim := { program := "ytppkmmifjfcfiaa", sum := "892d21b7a819c5e413985018035fd9855c5a38717c42e02161fb483af7b01799", func := "slotmesh/slotmeshlaw22.GraphTrees", spec := "graphTrees", unfollowed := true, recurses := true, apart := false, narrowed := true }
def GraphTreesUptoSaid : Prop := graphTreesUptoRow.holds Try.pinned (OpenSpec.upto graphTreesSpec)

/-- 'slotmeshlaw22.GraphMatchesReference', WHERE WHAT IT READS IS OF BULK AT MOST 1048576: true; the input reads as it did. -/
def graphMatchesReferenceUptoRow : OpenClaim := { program := "ytppkmmifjfcfiaa", sum := "892d21b7a819c5e413985018035fd9855c5a38717c42e02161fb483af7b01799", func := "slotmesh/slotmeshlaw22.GraphMatchesReference", spec := "graphMatchesReference", unfollowed := true, recurses := true, apart := false, narrowed := true }
def GraphMatchesReferenceUptoSaid : Prop := graphMatchesReferenceUptoRow.holds Try.pinned (OpenSpec.upto graphMatchesReferenceSpec)

/-- 'slotmeshlaw22.GraphLoops', WHERE WHAT IT READS IS OF BULK AT MOST 1048576: true; the input reads as it did. -/
def graphLoopsUptoRow : OpenClaim := { program := "ytppkmmifjfcfiaa", sum := "892d21b7a819c5e413985018035fd9855c5a38717c42e02161fb483af7b01799", func := "slotmesh/slotmeshlaw22.GraphLoops", spec := "graphLoops", unfollowed := true, recurses := true, apart := false, narrowed := true }
def GraphLoopsUptoSaid : Prop := graphLoopsUptoRow.holds Try.pinned (OpenSpec.upto graphLoopsSpec)

/-- 'slotmeshlaw22.GraphNoLoops', WHERE WHAT IT READS IS OF BULK AT MOST 1048576: true; the input reads as it did. -/
def graphNoLoopsUptoRow : OpenClaim := { program := "ytppkmmifjfcfiaa", sum := "892d21b7a819c5e413985018035fd9855c5a38717c42e02161fb483af7b01799", func := "slotmesh/slotmeshlaw22.GraphNoLoops", spec := "graphNoLoops", unfollowed := true, recurses := true, apart := false, narrowed := true }
def GraphNoLoopsUptoSaid : Prop := graphNoLoopsUptoRow.holds Try.pinned (OpenSpec.upto graphNoLoopsSpec)

/-- 'slotmeshlaw22.GraphDepths', WHERE WHAT IT READS IS OF BULK AT MOST 1048576: true; the input reads as it did. -/
def graphDepthsUptoRow : OpenClaim := { program := "ytppkmmifjfcfiaa", sum := "892d21b7a819c5e413985018035fd9855c5a38717c42e02161fb483af7b01799", func := "slotmesh/slotmeshlaw22.GraphDepths", spec := "graphDepths", unfollowed := true, recurses := true, apart := false, narrowed := true }
def GraphDepthsUptoSaid : Prop := graphDepthsUptoRow.holds Try.pinned (OpenSpec.upto graphDepthsSpec)

/-- 'slotmeshlaw22.GraphIslands', WHERE WHAT IT READS IS OF BULK AT MOST 1048576: true; the input reads as it did. -/
def graphIslandsUptoRow : OpenClaim := { program := "ytppkmmifjfcfiaa", sum := "892d21b7a819c5e413985018035fd9855c5a38717c42e02161fb483af7b01799", func := "slotmesh/slotmeshlaw22.GraphIslands", spec := "graphIslands", unfollowed := true, recurses := true, apart := false, narrowed := true }
def GraphIslandsUptoSaid : Prop := graphIslandsUptoRow.holds Try.pinned (OpenSpec.upto graphIslandsSpec)

end Rows
end Go.Proofs.Ytppkmmifjfcfiaa
