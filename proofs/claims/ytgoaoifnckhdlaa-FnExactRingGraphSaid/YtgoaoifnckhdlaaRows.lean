/-
  No cell of these rows narrows 'for every input' (looked for: loops, veiled, ifaces, maps, wideKeys, modest, calm, conditions, laid).
  DERIVED. THE GIVEN ROWS OF THIS SEAT. 12 by the template 'for every input the law returns true; each argument reads behind the call as it read before'; 0 by the template 'total and deterministic' (their statements: YtgoaoifnckhdlaaTotals.lean).
  GIVEN WITH THE SEED: the statements are not yours to turn. If you find one false, say at which input.
  Laid BY PROGRAM, IN A SANDBOX (cutbox-rows.mjs): the forced cells as the released guide's own fill.sh prints them over the translation 6d45ff63551f48ca… (all of the seat's roots in one cut). By AI agents, Wed Nov 11 2026. No macro, syntax, notation, axiom, sorry.
-/
import Derived.Test.YtgoaoifnckhdlaaChecked
import GoSem.Claim
import GoSem.ClaimJoined
import GoSem.ClaimMapViews
import Derived.JoinedTies
import Derived.KernelRfl
namespace Go.Proofs.Ytgoaoifnckhdlaa
/- THE CELL 'sum', in the pinned program and in every row, IS THE sha256 OF THE DUMP (.gsa) THAT YtgoaoifnckhdlaaProg.lean LOADS. Nothing in Lean hashes anything: it is a label: what it is worth is what the hold of that sum in a sandbox is worth. -/
noncomputable def Try.pinned : Pinned := { name := "ytgoaoifnckhdlaa", sum := "6d45ff63551f48ca6970c99f0dacc34e54172d9adf214de6d73bc894150905b0", checked := Try.checked }
namespace Rows
def none {H : Type} : Left H := { results := [], args := [] }

/-- 'laws.FnExactPhaseGates': WHATEVER THE INPUT: true; the input reads as it did. -/
def fnExactPhaseGatesSpec : ChangeSpec := { name := "fnExactPhaseGates", fn := fun _ => fun
  | [d1, d2] => { results := [.lit (.bool true)], args := [d1, d2] }
  | _ => none }
def fnExactPhaseGatesRow : OpenClaim := { program := "ytgoaoifnckhdlaa", sum := "6d45ff63551f48ca6970c99f0dacc34e54172d9adf214de6d73bc894150905b0", func := "loop.example/g00864/laws.FnExactPhaseGates", spec := "fnExactPhaseGates", apart := false }
def FnExactPhaseGatesSaid : Prop := fnExactPhaseGatesRow.holds Try.pinned (OpenSpec.ofChange fnExactPhaseGatesSpec)

/-- ITS FALSE NEIGHBOUR: 'it returns false'. Refute it at one input. -/
def fnExactPhaseGatesWrong : ChangeSpec := { name := "fnExactPhaseGates", fn := fun _ => fun
  | [d1, d2] => { results := [.lit (.bool false)], args := [d1, d2] }
  | _ => none }
def FnExactPhaseGatesWrongFalsely : Prop := fnExactPhaseGatesRow.holds Try.pinned (OpenSpec.ofChange fnExactPhaseGatesWrong)

/-- 'laws.FnExactIsValidCouplingGraph': WHATEVER THE INPUT: true; the input reads as it did. -/
def fnExactIsValidCouplingGraphSpec : ChangeSpec := { name := "fnExactIsValidCouplingGraph", fn := fun _ => fun
  | [d] => { results := [.lit (.bool true)], args := [d] }
  | _ => none }
def fnExactIsValidCouplingGraphRow : OpenClaim := { program := "ytgoaoifnckhdlaa", sum := "6d45ff63551f48ca6970c99f0dacc34e54172d9adf214de6d73bc894150905b0", func := "loop.example/g00864/laws.FnExactIsValidCouplingGraph", spec := "fnExactIsValidCouplingGraph", apart := false }
def FnExactIsValidCouplingGraphSaid : Prop := fnExactIsValidCouplingGraphRow.holds Try.pinned (OpenSpec.ofChange fnExactIsValidCouplingGraphSpec)

/-- ITS FALSE NEIGHBOUR: 'it returns false'. Refute it at one input. -/
def fnExactIsValidCouplingGraphWrong : ChangeSpec := { name := "fnExactIsValidCouplingGraph", fn := fun _ => fun
  | [d] => { results := [.lit (.bool false)], args := [d] }
  | _ => none }
def FnExactIsValidCouplingGraphWrongFalsely : Prop := fnExactIsValidCouplingGraphRow.holds Try.pinned (OpenSpec.ofChange fnExactIsValidCouplingGraphWrong)

/-- 'laws.FnExactGridGraph': WHATEVER THE INPUT: true; the input reads as it did. -/
def fnExactGridGraphSpec : ChangeSpec := { name := "fnExactGridGraph", fn := fun _ => fun
  | [d1, d2] => { results := [.lit (.bool true)], args := [d1, d2] }
  | _ => none }
def fnExactGridGraphRow : OpenClaim := { program := "ytgoaoifnckhdlaa", sum := "6d45ff63551f48ca6970c99f0dacc34e54172d9adf214de6d73bc894150905b0", func := "loop.example/g00864/laws.FnExactGridGraph", spec := "fnExactGridGraph", apart := false }
def FnExactGridGraphSaid : Prop := fnExactGridGraphRow.holds Try.pinned (OpenSpec.ofChange fnExactGridGraphSpec)

/-- ITS FALSE NEIGHBOUR: 'it returns false'. Refute it at one input. -/
def fnExactGridGraphWrong : ChangeSpec := { name := "fnExactGridGraph", fn := fun _ => fun
  | [d1, d2] => { results := [.lit (.bool false)], args := [d1, d2] }
  | _ => none }
def FnExactGridGraphWrongFalsely : Prop := fnExactGridGraphRow.holds Try.pinned (OpenSpec.ofChange fnExactGridGraphWrong)

/-- 'laws.FnExactLineGraph': WHATEVER THE INPUT: true; the input reads as it did. -/
def fnExactLineGraphSpec : ChangeSpec := { name := "fnExactLineGraph", fn := fun _ => fun
  | [d] => { results := [.lit (.bool true)], args := [d] }
  | _ => none }
def fnExactLineGraphRow : OpenClaim := { program := "ytgoaoifnckhdlaa", sum := "6d45ff63551f48ca6970c99f0dacc34e54172d9adf214de6d73bc894150905b0", func := "loop.example/g00864/laws.FnExactLineGraph", spec := "fnExactLineGraph", apart := false }
def FnExactLineGraphSaid : Prop := fnExactLineGraphRow.holds Try.pinned (OpenSpec.ofChange fnExactLineGraphSpec)

/-- ITS FALSE NEIGHBOUR: 'it returns false'. Refute it at one input. -/
def fnExactLineGraphWrong : ChangeSpec := { name := "fnExactLineGraph", fn := fun _ => fun
  | [d] => { results := [.lit (.bool false)], args := [d] }
  | _ => none }
def FnExactLineGraphWrongFalsely : Prop := fnExactLineGraphRow.holds Try.pinned (OpenSpec.ofChange fnExactLineGraphWrong)

/-- 'laws.FnExactIsValidOpenGraph': WHATEVER THE INPUT: true; the input reads as it did. -/
def fnExactIsValidOpenGraphSpec : ChangeSpec := { name := "fnExactIsValidOpenGraph", fn := fun _ => fun
  | [d] => { results := [.lit (.bool true)], args := [d] }
  | _ => none }
def fnExactIsValidOpenGraphRow : OpenClaim := { program := "ytgoaoifnckhdlaa", sum := "6d45ff63551f48ca6970c99f0dacc34e54172d9adf214de6d73bc894150905b0", func := "loop.example/g00864/laws.FnExactIsValidOpenGraph", spec := "fnExactIsValidOpenGraph", apart := false }
def FnExactIsValidOpenGraphSaid : Prop := fnExactIsValidOpenGraphRow.holds Try.pinned (OpenSpec.ofChange fnExactIsValidOpenGraphSpec)

/-- ITS FALSE NEIGHBOUR: 'it returns false'. Refute it at one input. -/
def fnExactIsValidOpenGraphWrong : ChangeSpec := { name := "fnExactIsValidOpenGraph", fn := fun _ => fun
  | [d] => { results := [.lit (.bool false)], args := [d] }
  | _ => none }
def FnExactIsValidOpenGraphWrongFalsely : Prop := fnExactIsValidOpenGraphRow.holds Try.pinned (OpenSpec.ofChange fnExactIsValidOpenGraphWrong)

/-- 'laws.FnExactIsPlacement': WHATEVER THE INPUT: true; the input reads as it did. -/
def fnExactIsPlacementSpec : ChangeSpec := { name := "fnExactIsPlacement", fn := fun _ => fun
  | [d1, d2, d3] => { results := [.lit (.bool true)], args := [d1, d2, d3] }
  | _ => none }
def fnExactIsPlacementRow : OpenClaim := { program := "ytgoaoifnckhdlaa", sum := "6d45ff63551f48ca6970c99f0dacc34e54172d9adf214de6d73bc894150905b0", func := "loop.example/g00864/laws.FnExactIsPlacement", spec := "fnExactIsPlacement", apart := false }
def FnExactIsPlacementSaid : Prop := fnExactIsPlacementRow.holds Try.pinned (OpenSpec.ofChange fnExactIsPlacementSpec)

/-- ITS FALSE NEIGHBOUR: 'it returns false'. Refute it at one input. -/
def fnExactIsPlacementWrong : ChangeSpec := { name := "fnExactIsPlacement", fn := fun _ => fun
  | [d1, d2, d3] => { results := [.lit (.bool false)], args := [d1, d2, d3] }
  | _ => none }
def FnExactIsPlacementWrongFalsely : Prop := fnExactIsPlacementRow.holds Try.pinned (OpenSpec.ofChange fnExactIsPlacementWrong)

/-- 'laws.FnExactNeighborsOf': WHATEVER THE INPUT: true; the input reads as it did. -/
def fnExactNeighborsOfSpec : ChangeSpec := { name := "fnExactNeighborsOf", fn := fun _ => fun
  | [d1, d2] => { results := [.lit (.bool true)], args := [d1, d2] }
  | _ => none }
def fnExactNeighborsOfRow : OpenClaim := { program := "ytgoaoifnckhdlaa", sum := "6d45ff63551f48ca6970c99f0dacc34e54172d9adf214de6d73bc894150905b0", func := "loop.example/g00864/laws.FnExactNeighborsOf", spec := "fnExactNeighborsOf", apart := false }
def FnExactNeighborsOfSaid : Prop := fnExactNeighborsOfRow.holds Try.pinned (OpenSpec.ofChange fnExactNeighborsOfSpec)

/-- ITS FALSE NEIGHBOUR: 'it returns false'. Refute it at one input. -/
def fnExactNeighborsOfWrong : ChangeSpec := { name := "fnExactNeighborsOf", fn := fun _ => fun
  | [d1, d2] => { results := [.lit (.bool false)], args := [d1, d2] }
  | _ => none }
def FnExactNeighborsOfWrongFalsely : Prop := fnExactNeighborsOfRow.holds Try.pinned (OpenSpec.ofChange fnExactNeighborsOfWrong)

/-- 'laws.FnExactEliminateRows': WHATEVER THE INPUT: true; the input reads as it did. -/
def fnExactEliminateRowsSpec : ChangeSpec := { name := "fnExactEliminateRows", fn := fun _ => fun
  | [d] => { results := [.lit (.bool true)], args := [d] }
  | _ => none }
def fnExactEliminateRowsRow : OpenClaim := { program := "ytgoaoifnckhdlaa", sum := "6d45ff63551f48ca6970c99f0dacc34e54172d9adf214de6d73bc894150905b0", func := "loop.example/g00864/laws.FnExactEliminateRows", spec := "fnExactEliminateRows", unfollowed := true, recurses := true, apart := false }
def FnExactEliminateRowsSaid : Prop := fnExactEliminateRowsRow.holds Try.pinned (OpenSpec.ofChange fnExactEliminateRowsSpec)

/-- ITS FALSE NEIGHBOUR: 'it returns false'. Refute it at one input. -/
def fnExactEliminateRowsWrong : ChangeSpec := { name := "fnExactEliminateRows", fn := fun _ => fun
  | [d] => { results := [.lit (.bool false)], args := [d] }
  | _ => none }
def FnExactEliminateRowsWrongFalsely : Prop := fnExactEliminateRowsRow.holds Try.pinned (OpenSpec.ofChange fnExactEliminateRowsWrong)

/-- 'laws.FnExactTDepthOf': WHATEVER THE INPUT: true; the input reads as it did. -/
def fnExactTDepthOfSpec : ChangeSpec := { name := "fnExactTDepthOf", fn := fun _ => fun
  | [d] => { results := [.lit (.bool true)], args := [d] }
  | _ => none }
def fnExactTDepthOfRow : OpenClaim := { program := "ytgoaoifnckhdlaa", sum := "6d45ff63551f48ca6970c99f0dacc34e54172d9adf214de6d73bc894150905b0", func := "loop.example/g00864/laws.FnExactTDepthOf", spec := "fnExactTDepthOf", unfollowed := true, recurses := true, apart := false }
def FnExactTDepthOfSaid : Prop := fnExactTDepthOfRow.holds Try.pinned (OpenSpec.ofChange fnExactTDepthOfSpec)

/-- ITS FALSE NEIGHBOUR: 'it returns false'. Refute it at one input. -/
def fnExactTDepthOfWrong : ChangeSpec := { name := "fnExactTDepthOf", fn := fun _ => fun
  | [d] => { results := [.lit (.bool false)], args := [d] }
  | _ => none }
def FnExactTDepthOfWrongFalsely : Prop := fnExactTDepthOfRow.holds Try.pinned (OpenSpec.ofChange fnExactTDepthOfWrong)

/-- 'laws.FnExactDepthOf': WHATEVER THE INPUT: true; the input reads as it did. -/
def fnExactDepthOfSpec : ChangeSpec := { name := "fnExactDepthOf", fn := fun _ => fun
  | [d] => { results := [.lit (.bool true)], args := [d] }
  | _ => none }
def fnExactDepthOfRow : OpenClaim := { program := "ytgoaoifnckhdlaa", sum := "6d45ff63551f48ca6970c99f0dacc34e54172d9adf214de6d73bc894150905b0", func := "loop.example/g00864/laws.FnExactDepthOf", spec := "fnExactDepthOf", unfollowed := true, recurses := true, apart := false }
def FnExactDepthOfSaid : Prop := fnExactDepthOfRow.holds Try.pinned (OpenSpec.ofChange fnExactDepthOfSpec)

/-- ITS FALSE NEIGHBOUR: 'it returns false'. Refute it at one input. -/
def fnExactDepthOfWrong : ChangeSpec := { name := "fnExactDepthOf", fn := fun _ => fun
  | [d] => { results := [.lit (.bool false)], args := [d] }
  | _ => none }
def FnExactDepthOfWrongFalsely : Prop := fnExactDepthOfRow.holds Try.pinned (OpenSpec.ofChange fnExactDepthOfWrong)

/-- 'laws.FnExactRingGraph': WHATEVER THE INPUT: true; the input reads as it did. -/
def fnExactRingGraphSpec : ChangeSpec := { name := "fnExactRingGraph", fn := fun _ => fun
  | [d] => { results := [.lit (.bool true)], args := [d] }
  | _ => none }
def fnExactRingGraphRow : OpenClaim := { program := "ytgoaoifnckhdlaa", sum := "6d45ff63551f48ca6970c99f0dacc34e54172d9adf214de6d73bc894150905b0", func := "loop.example/g00864/laws.FnExactRingGraph", spec := "fnExactRingGraph", inPlace := ["slices.overlaps[loop.example/g00864/impl.Edge]"], apart := false }
def FnExactRingGraphSaid : Prop := fnExactRingGraphRow.holds Try.pinned (OpenSpec.ofChange fnExactRingGraphSpec)

/-- ITS FALSE NEIGHBOUR: 'it returns false'. Refute it at one input. -/
def fnExactRingGraphWrong : ChangeSpec := { name := "fnExactRingGraph", fn := fun _ => fun
  | [d] => { results := [.lit (.bool false)], args := [d] }
  | _ => none }
def FnExactRingGraphWrongFalsely : Prop := fnExactRingGraphRow.holds Try.pinned (OpenSpec.ofChange fnExactRingGraphWrong)

/-- 'laws.FnExactIsValidPathSum': WHATEVER THE INPUT: true; the input reads as it did. -/
def fnExactIsValidPathSumSpec : ChangeSpec := { name := "fnExactIsValidPathSum", fn := fun _ => fun
  | [d] => { results := [.lit (.bool true)], args := [d] }
  | _ => none }
def fnExactIsValidPathSumRow : OpenClaim := { program := "ytgoaoifnckhdlaa", sum := "6d45ff63551f48ca6970c99f0dacc34e54172d9adf214de6d73bc894150905b0", func := "loop.example/g00864/laws.FnExactIsValidPathSum", spec := "fnExactIsValidPathSum", unfollowed := true, recurses := true, apart := false }
def FnExactIsValidPathSumSaid : Prop := fnExactIsValidPathSumRow.holds Try.pinned (OpenSpec.ofChange fnExactIsValidPathSumSpec)

/-- ITS FALSE NEIGHBOUR: 'it returns false'. Refute it at one input. -/
def fnExactIsValidPathSumWrong : ChangeSpec := { name := "fnExactIsValidPathSum", fn := fun _ => fun
  | [d] => { results := [.lit (.bool false)], args := [d] }
  | _ => none }
def FnExactIsValidPathSumWrongFalsely : Prop := fnExactIsValidPathSumRow.holds Try.pinned (OpenSpec.ofChange fnExactIsValidPathSumWrong)

/- THE SECOND FORM. 'bulk': how many values and letters a reading holds, each counted each time it is reached (what is shared counts as often as it is met; a slice's spare places count too). A statement '..UptoSaid' is the law's where the arguments, and the package variables that the reading takes, are together of bulk at most 1048576: NARROWER than '..Said'. Prove '..Said' where nothing that the law and all that it calls make is longer than what came in: it says more and counts as full. Else prove '..UptoSaid'. A law counts once. -/
mutual
def uptoBulk {H : Type} : DataW H → Nat
  | .lit (.string bytes) => bytes.length + 1
  | .lit _ => 1
  | .nil => 1
  | .ptr d => uptoBulk d + 1
  | .slice elems spare => uptoBulkAll elems + uptoBulkAll spare + 1
  | .agg parts => uptoBulkAll parts + 1
  | .iface _ d => uptoBulk d + 1
  | .map entries => uptoBulkEntries entries + 1
  | .held _ => 1
def uptoBulkAll {H : Type} : List (DataW H) → Nat
  | [] => 0
  | d :: r => uptoBulk d + uptoBulkAll r
def uptoBulkEntries {H : Type} : List (Lit × DataW H) → Nat
  | [] => 0
  | x :: r => uptoBulkEntry x + uptoBulkEntries r
def uptoBulkEntry {H : Type} : Lit × DataW H → Nat
  | (.string bytes, d) => bytes.length + uptoBulk d + 1
  | (_, d) => uptoBulk d + 1
 end
def uptoSmall : (H : Type) → List (DataW H) → Bool := fun _ ds => decide (uptoBulkAll ds ≤ 1048576)
def OpenSpec.upto (s : _root_.Go.ChangeSpec) : _root_.Go.OpenSpec := { _root_.Go.OpenSpec.ofChange s with cond := some uptoSmall }

/-- 'laws.FnExactPhaseGates', WHERE WHAT IT READS IS OF BULK AT MOST 1048576: true; the input reads as it did. -/
def fnExactPhaseGatesUptoRow : OpenClaim := { program := "ytgoaoifnckhdlaa", sum := "6d45ff63551f48ca6970c99f0dacc34e54172d9adf214de6d73bc894150905b0", func := "loop.example/g00864/laws.FnExactPhaseGates", spec := "fnExactPhaseGates", apart := false, narrowed := true }
def FnExactPhaseGatesUptoSaid : Prop := fnExactPhaseGatesUptoRow.holds Try.pinned (OpenSpec.upto fnExactPhaseGatesSpec)

/-- 'laws.FnExactIsValidCouplingGraph', WHERE WHAT IT READS IS OF BULK AT MOST 1048576: true; the input reads as it did. -/
def fnExactIsValidCouplingGraphUptoRow : OpenClaim := { program := "ytgoaoifnckhdlaa", sum := "6d45ff63551f48ca6970c99f0dacc34e54172d9adf214de6d73bc894150905b0", func := "loop.example/g00864/laws.FnExactIsValidCouplingGraph", spec := "fnExactIsValidCouplingGraph", apart := false, narrowed := true }
def FnExactIsValidCouplingGraphUptoSaid : Prop := fnExactIsValidCouplingGraphUptoRow.holds Try.pinned (OpenSpec.upto fnExactIsValidCouplingGraphSpec)

/-- 'laws.FnExactGridGraph', WHERE WHAT IT READS IS OF BULK AT MOST 1048576: true; the input reads as it did. -/
def fnExactGridGraphUptoRow : OpenClaim := { program := "ytgoaoifnckhdlaa", sum := "6d45ff63551f48ca6970c99f0dacc34e54172d9adf214de6d73bc894150905b0", func := "loop.example/g00864/laws.FnExactGridGraph", spec := "fnExactGridGraph", apart := false, narrowed := true }
def FnExactGridGraphUptoSaid : Prop := fnExactGridGraphUptoRow.holds Try.pinned (OpenSpec.upto fnExactGridGraphSpec)

/-- 'laws.FnExactLineGraph', WHERE WHAT IT READS IS OF BULK AT MOST 1048576: true; the input reads as it did. -/
def fnExactLineGraphUptoRow : OpenClaim := { program := "ytgoaoifnckhdlaa", sum := "6d45ff63551f48ca6970c99f0dacc34e54172d9adf214de6d73bc894150905b0", func := "loop.example/g00864/laws.FnExactLineGraph", spec := "fnExactLineGraph", apart := false, narrowed := true }
def FnExactLineGraphUptoSaid : Prop := fnExactLineGraphUptoRow.holds Try.pinned (OpenSpec.upto fnExactLineGraphSpec)

/-- 'laws.FnExactIsValidOpenGraph', WHERE WHAT IT READS IS OF BULK AT MOST 1048576: true; the input reads as it did. -/
def fnExactIsValidOpenGraphUptoRow : OpenClaim := { program := "ytgoaoifnckhdlaa", sum := "6d45ff63551f48ca6970c99f0dacc34e54172d9adf214de6d73bc894150905b0", func := "loop.example/g00864/laws.FnExactIsValidOpenGraph", spec := "fnExactIsValidOpenGraph", apart := false, narrowed := true }
def FnExactIsValidOpenGraphUptoSaid : Prop := fnExactIsValidOpenGraphUptoRow.holds Try.pinned (OpenSpec.upto fnExactIsValidOpenGraphSpec)

/-- 'laws.FnExactIsPlacement', WHERE WHAT IT READS IS OF BULK AT MOST 1048576: true; the input reads as it did. -/
def fnExactIsPlacementUptoRow : OpenClaim := { program := "ytgoaoifnckhdlaa", sum := "6d45ff63551f48ca6970c99f0dacc34e54172d9adf214de6d73bc894150905b0", func := "loop.example/g00864/laws.FnExactIsPlacement", spec := "fnExactIsPlacement", apart := false, narrowed := true }
def FnExactIsPlacementUptoSaid : Prop := fnExactIsPlacementUptoRow.holds Try.pinned (OpenSpec.upto fnExactIsPlacementSpec)

/-- 'laws.FnExactNeighborsOf', WHERE WHAT IT READS IS OF BULK AT MOST 1048576: true; the input reads as it did. -/
def fnExactNeighborsOfUptoRow : OpenClaim := { program := "ytgoaoifnckhdlaa", sum := "6d45ff63551f48ca6970c99f0dacc34e54172d9adf214de6d73bc894150905b0", func := "loop.example/g00864/laws.FnExactNeighborsOf", spec := "fnExactNeighborsOf", apart := false, narrowed := true }
def FnExactNeighborsOfUptoSaid : Prop := fnExactNeighborsOfUptoRow.holds Try.pinned (OpenSpec.upto fnExactNeighborsOfSpec)

/-- 'laws.FnExactEliminateRows', WHERE WHAT IT READS IS OF BULK AT MOST 1048576: true; the input reads as it did. -/
def fnExactEliminateRowsUptoRow : OpenClaim := { program := "ytgoaoifnckhdlaa", sum := "6d45ff63551f48ca6970c99f0dacc34e54172d9adf214de6d73bc894150905b0", func := "loop.example/g00864/laws.FnExactEliminateRows", spec := "fnExactEliminateRows", unfollowed := true, recurses := true, apart := false, narrowed := true }
def FnExactEliminateRowsUptoSaid : Prop := fnExactEliminateRowsUptoRow.holds Try.pinned (OpenSpec.upto fnExactEliminateRowsSpec)

/-- 'laws.FnExactTDepthOf', WHERE WHAT IT READS IS OF BULK AT MOST 1048576: true; the input reads as it did. -/
def fnExactTDepthOfUptoRow : OpenClaim := { program := "ytgoaoifnckhdlaa", sum := "6d45ff63551f48ca6970c99f0dacc34e54172d9adf214de6d73bc894150905b0", func := "loop.example/g00864/laws.FnExactTDepthOf", spec := "fnExactTDepthOf", unfollowed := true, recurses := true, apart := false, narrowed := true }
def FnExactTDepthOfUptoSaid : Prop := fnExactTDepthOfUptoRow.holds Try.pinned (OpenSpec.upto fnExactTDepthOfSpec)

/-- 'laws.FnExactDepthOf', WHERE WHAT IT READS IS OF BULK AT MOST 1048576: true; the input reads as it did. -/
def fnExactDepthOfUptoRow : OpenClaim := { program := "ytgoaoifnckhdlaa", sum := "6d45ff63551f48ca6970c99f0dacc34e54172d9adf214de6d73bc894150905b0", func := "loop.example/g00864/laws.FnExactDepthOf", spec := "fnExactDepthOf", unfollowed := true, recurses := true, apart := false, narrowed := true }
def FnExactDepthOfUptoSaid : Prop := fnExactDepthOfUptoRow.holds Try.pinned (OpenSpec.upto fnExactDepthOfSpec)

/-- 'laws.FnExactRingGraph', WHERE WHAT IT READS IS OF BULK AT MOST 1048576: true; the input reads as it did. -/
def fnExactRingGraphUptoRow : OpenClaim := { program := "ytgoaoifnckhdlaa", sum := "6d45ff63551f48ca6970c99f0dacc34e54172d9adf214de6d73bc894150905b0", func := "loop.example/g00864/laws.FnExactRingGraph", spec := "fnExactRingGraph", inPlace := ["slices.overlaps[loop.example/g00864/impl.Edge]"], apart := false, narrowed := true }
def FnExactRingGraphUptoSaid : Prop := fnExactRingGraphUptoRow.holds Try.pinned (OpenSpec.upto fnExactRingGraphSpec)

/-- 'laws.FnExactIsValidPathSum', WHERE WHAT IT READS IS OF BULK AT MOST 1048576: true; the input reads as it did. -/
def fnExactIsValidPathSumUptoRow : OpenClaim := { program := "ytgoaoifnckhdlaa", sum := "6d45ff63551f48ca6970c99f0dacc34e54172d9adf214de6d73bc894150905b0", func := "loop.example/g00864/laws.FnExactIsValidPathSum", spec := "fnExactIsValidPathSum", unfollowed := true, recurses := true, apart := false, narrowed := true }
def FnExactIsValidPathSumUptoSaid : Prop := fnExactIsValidPathSumUptoRow.holds Try.pinned (OpenSpec.upto fnExactIsValidPathSumSpec)

end Rows
end Go.Proofs.Ytgoaoifnckhdlaa
