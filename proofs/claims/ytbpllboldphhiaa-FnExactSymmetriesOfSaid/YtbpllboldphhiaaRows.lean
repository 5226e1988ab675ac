/-
  No cell of these rows narrows 'for every input' (looked for: loops, veiled, ifaces, maps, wideKeys, modest, calm, conditions, laid).
  DERIVED. THE GIVEN ROWS OF THIS SEAT. 12 by the template 'for every input the law returns true; each argument reads behind the call as it read before'; 0 by the template 'total and deterministic' (their statements: YtbpllboldphhiaaTotals.lean).
  GIVEN WITH THE SEED: the statements are not yours to turn. If you find one false, say at which input.
  Laid BY PROGRAM, IN A SANDBOX (cutbox-rows.mjs): the forced cells as the released guide's own fill.sh prints them over the translation 42ee4d709cd87295… (all of the seat's roots in one cut). By AI agents, Wed Nov 11 2026. No macro, syntax, notation, axiom, sorry.
-/
import Derived.Test.YtbpllboldphhiaaChecked
import GoSem.Claim
import GoSem.ClaimJoined
import GoSem.ClaimMapViews
import Derived.JoinedTies
import Derived.KernelRfl
namespace Go.Proofs.Ytbpllboldphhiaa
/- THE CELL 'sum', in the pinned program and in every row, IS THE sha256 OF THE DUMP (.gsa) THAT YtbpllboldphhiaaProg.lean LOADS. Nothing in Lean hashes anything: it is a label: what it is worth is what the hold of that sum in a sandbox is worth. -/
noncomputable def Try.pinned : Pinned := { name := "ytbpllboldphhiaa", sum := "42ee4d709cd87295802eff3fdb69dccfc472d6128a2789ddcdf7d31647e6cadf", checked := Try.checked }
namespace Rows
def none {H : Type} : Left H := { results := [], args := [] }

/-- 'laws.FnExactLayersOf': WHATEVER THE INPUT: true; the input reads as it did. -/
def fnExactLayersOfSpec : ChangeSpec := { name := "fnExactLayersOf", fn := fun _ => fun
  | [d] => { results := [.lit (.bool true)], args := [d] }
  | _ => none }
def fnExactLayersOfRow : OpenClaim := { program := "ytbpllboldphhiaa", sum := "42ee4d709cd87295802eff3fdb69dccfc472d6128a2789ddcdf7d31647e6cadf", func := "loop.example/g00864/laws.FnExactLayersOf", spec := "fnExactLayersOf", unfollowed := true, recurses := true, plainKeys := false, apart := false }
def FnExactLayersOfSaid : Prop := fnExactLayersOfRow.holds Try.pinned (OpenSpec.ofChange fnExactLayersOfSpec)

/-- ITS FALSE NEIGHBOUR: 'it returns false'. Refute it at one input. -/
def fnExactLayersOfWrong : ChangeSpec := { name := "fnExactLayersOf", fn := fun _ => fun
  | [d] => { results := [.lit (.bool false)], args := [d] }
  | _ => none }
def FnExactLayersOfWrongFalsely : Prop := fnExactLayersOfRow.holds Try.pinned (OpenSpec.ofChange fnExactLayersOfWrong)

/-- 'laws.FnExactIsExecutable': WHATEVER THE INPUT: true; the input reads as it did. -/
def fnExactIsExecutableSpec : ChangeSpec := { name := "fnExactIsExecutable", fn := fun _ => fun
  | [d1, d2] => { results := [.lit (.bool true)], args := [d1, d2] }
  | _ => none }
def fnExactIsExecutableRow : OpenClaim := { program := "ytbpllboldphhiaa", sum := "42ee4d709cd87295802eff3fdb69dccfc472d6128a2789ddcdf7d31647e6cadf", func := "loop.example/g00864/laws.FnExactIsExecutable", spec := "fnExactIsExecutable", unfollowed := true, recurses := true, plainKeys := false, apart := false }
def FnExactIsExecutableSaid : Prop := fnExactIsExecutableRow.holds Try.pinned (OpenSpec.ofChange fnExactIsExecutableSpec)

/-- ITS FALSE NEIGHBOUR: 'it returns false'. Refute it at one input. -/
def fnExactIsExecutableWrong : ChangeSpec := { name := "fnExactIsExecutable", fn := fun _ => fun
  | [d1, d2] => { results := [.lit (.bool false)], args := [d1, d2] }
  | _ => none }
def FnExactIsExecutableWrongFalsely : Prop := fnExactIsExecutableRow.holds Try.pinned (OpenSpec.ofChange fnExactIsExecutableWrong)

/-- 'laws.FnExactOddNeighbors': WHATEVER THE INPUT: true; the input reads as it did. -/
def fnExactOddNeighborsSpec : ChangeSpec := { name := "fnExactOddNeighbors", fn := fun _ => fun
  | [d1, d2] => { results := [.lit (.bool true)], args := [d1, d2] }
  | _ => none }
def fnExactOddNeighborsRow : OpenClaim := { program := "ytbpllboldphhiaa", sum := "42ee4d709cd87295802eff3fdb69dccfc472d6128a2789ddcdf7d31647e6cadf", func := "loop.example/g00864/laws.FnExactOddNeighbors", spec := "fnExactOddNeighbors", plainKeys := false, apart := false }
def FnExactOddNeighborsSaid : Prop := fnExactOddNeighborsRow.holds Try.pinned (OpenSpec.ofChange fnExactOddNeighborsSpec)

/-- ITS FALSE NEIGHBOUR: 'it returns false'. Refute it at one input. -/
def fnExactOddNeighborsWrong : ChangeSpec := { name := "fnExactOddNeighbors", fn := fun _ => fun
  | [d1, d2] => { results := [.lit (.bool false)], args := [d1, d2] }
  | _ => none }
def FnExactOddNeighborsWrongFalsely : Prop := fnExactOddNeighborsRow.holds Try.pinned (OpenSpec.ofChange fnExactOddNeighborsWrong)

/-- 'laws.FnExactDistancesFrom': WHATEVER THE INPUT: true; the input reads as it did. -/
def fnExactDistancesFromSpec : ChangeSpec := { name := "fnExactDistancesFrom", fn := fun _ => fun
  | [d1, d2] => { results := [.lit (.bool true)], args := [d1, d2] }
  | _ => none }
def fnExactDistancesFromRow : OpenClaim := { program := "ytbpllboldphhiaa", sum := "42ee4d709cd87295802eff3fdb69dccfc472d6128a2789ddcdf7d31647e6cadf", func := "loop.example/g00864/laws.FnExactDistancesFrom", spec := "fnExactDistancesFrom", plainKeys := false, apart := false }
def FnExactDistancesFromSaid : Prop := fnExactDistancesFromRow.holds Try.pinned (OpenSpec.ofChange fnExactDistancesFromSpec)

/-- ITS FALSE NEIGHBOUR: 'it returns false'. Refute it at one input. -/
def fnExactDistancesFromWrong : ChangeSpec := { name := "fnExactDistancesFrom", fn := fun _ => fun
  | [d1, d2] => { results := [.lit (.bool false)], args := [d1, d2] }
  | _ => none }
def FnExactDistancesFromWrongFalsely : Prop := fnExactDistancesFromRow.holds Try.pinned (OpenSpec.ofChange fnExactDistancesFromWrong)

/-- 'laws.FnExactDiameterOf': WHATEVER THE INPUT: true; the input reads as it did. -/
def fnExactDiameterOfSpec : ChangeSpec := { name := "fnExactDiameterOf", fn := fun _ => fun
  | [d] => { results := [.lit (.bool true)], args := [d] }
  | _ => none }
def fnExactDiameterOfRow : OpenClaim := { program := "ytbpllboldphhiaa", sum := "42ee4d709cd87295802eff3fdb69dccfc472d6128a2789ddcdf7d31647e6cadf", func := "loop.example/g00864/laws.FnExactDiameterOf", spec := "fnExactDiameterOf", plainKeys := false, apart := false }
def FnExactDiameterOfSaid : Prop := fnExactDiameterOfRow.holds Try.pinned (OpenSpec.ofChange fnExactDiameterOfSpec)

/-- ITS FALSE NEIGHBOUR: 'it returns false'. Refute it at one input. -/
def fnExactDiameterOfWrong : ChangeSpec := { name := "fnExactDiameterOf", fn := fun _ => fun
  | [d] => { results := [.lit (.bool false)], args := [d] }
  | _ => none }
def FnExactDiameterOfWrongFalsely : Prop := fnExactDiameterOfRow.holds Try.pinned (OpenSpec.ofChange fnExactDiameterOfWrong)

/-- 'laws.FnExactIsIdentitySum': WHATEVER THE INPUT: true; the input reads as it did. -/
def fnExactIsIdentitySumSpec : ChangeSpec := { name := "fnExactIsIdentitySum", fn := fun _ => fun
  | [d] => { results := [.lit (.bool true)], args := [d] }
  | _ => none }
def fnExactIsIdentitySumRow : OpenClaim := { program := "ytbpllboldphhiaa", sum := "42ee4d709cd87295802eff3fdb69dccfc472d6128a2789ddcdf7d31647e6cadf", func := "loop.example/g00864/laws.FnExactIsIdentitySum", spec := "fnExactIsIdentitySum", unfollowed := true, recurses := true, plainKeys := false, apart := false }
def FnExactIsIdentitySumSaid : Prop := fnExactIsIdentitySumRow.holds Try.pinned (OpenSpec.ofChange fnExactIsIdentitySumSpec)

/-- ITS FALSE NEIGHBOUR: 'it returns false'. Refute it at one input. -/
def fnExactIsIdentitySumWrong : ChangeSpec := { name := "fnExactIsIdentitySum", fn := fun _ => fun
  | [d] => { results := [.lit (.bool false)], args := [d] }
  | _ => none }
def FnExactIsIdentitySumWrongFalsely : Prop := fnExactIsIdentitySumRow.holds Try.pinned (OpenSpec.ofChange fnExactIsIdentitySumWrong)

/-- 'laws.FnExactSymmetriesOf': WHATEVER THE INPUT: true; the input reads as it did. -/
def fnExactSymmetriesOfSpec : ChangeSpec := { name := "fnExactSymmetriesOf", fn := fun _ => fun
  | [d] => { results := [.lit (.bool true)], args := [d] }
  | _ => none }
def fnExactSymmetriesOfRow : OpenClaim := { program := "ytbpllboldphhiaa", sum := "42ee4d709cd87295802eff3fdb69dccfc472d6128a2789ddcdf7d31647e6cadf", func := "loop.example/g00864/laws.FnExactSymmetriesOf", spec := "fnExactSymmetriesOf", unfollowed := true, recurses := true, plainKeys := false, apart := false }
def FnExactSymmetriesOfSaid : Prop := fnExactSymmetriesOfRow.holds Try.pinned (OpenSpec.ofChange fnExactSymmetriesOfSpec)

/-- ITS FALSE NEIGHBOUR: 'it returns false'. Refute it at one input. -/
def fnExactSymmetriesOfWrong : ChangeSpec := { name := "fnExactSymmetriesOf", fn := fun _ => fun
  | [d] => { results := [.lit (.bool false)], args := [d] }
  | _ => none }
def FnExactSymmetriesOfWrongFalsely : Prop := fnExactSymmetriesOfRow.holds Try.pinned (OpenSpec.ofChange fnExactSymmetriesOfWrong)

/-- 'laws.FnExactLeastCX': WHATEVER THE INPUT: true; the input reads as it did. -/
def fnExactLeastCXSpec : ChangeSpec := { name := "fnExactLeastCX", fn := fun _ => fun
  | [d] => { results := [.lit (.bool true)], args := [d] }
  | _ => none }
def fnExactLeastCXRow : OpenClaim := { program := "ytbpllboldphhiaa", sum := "42ee4d709cd87295802eff3fdb69dccfc472d6128a2789ddcdf7d31647e6cadf", func := "loop.example/g00864/laws.FnExactLeastCX", spec := "fnExactLeastCX", unfollowed := true, recurses := true, plainKeys := false, apart := false }
def FnExactLeastCXSaid : Prop := fnExactLeastCXRow.holds Try.pinned (OpenSpec.ofChange fnExactLeastCXSpec)

/-- ITS FALSE NEIGHBOUR: 'it returns false'. Refute it at one input. -/
def fnExactLeastCXWrong : ChangeSpec := { name := "fnExactLeastCX", fn := fun _ => fun
  | [d] => { results := [.lit (.bool false)], args := [d] }
  | _ => none }
def FnExactLeastCXWrongFalsely : Prop := fnExactLeastCXRow.holds Try.pinned (OpenSpec.ofChange fnExactLeastCXWrong)

/-- 'laws.FnExactShortestPath': WHATEVER THE INPUT: true; the input reads as it did. -/
def fnExactShortestPathSpec : ChangeSpec := { name := "fnExactShortestPath", fn := fun _ => fun
  | [d1, d2, d3] => { results := [.lit (.bool true)], args := [d1, d2, d3] }
  | _ => none }
def fnExactShortestPathRow : OpenClaim := { program := "ytbpllboldphhiaa", sum := "42ee4d709cd87295802eff3fdb69dccfc472d6128a2789ddcdf7d31647e6cadf", func := "loop.example/g00864/laws.FnExactShortestPath", spec := "fnExactShortestPath", plainKeys := false, apart := false }
def FnExactShortestPathSaid : Prop := fnExactShortestPathRow.holds Try.pinned (OpenSpec.ofChange fnExactShortestPathSpec)

/-- ITS FALSE NEIGHBOUR: 'it returns false'. Refute it at one input. -/
def fnExactShortestPathWrong : ChangeSpec := { name := "fnExactShortestPath", fn := fun _ => fun
  | [d1, d2, d3] => { results := [.lit (.bool false)], args := [d1, d2, d3] }
  | _ => none }
def FnExactShortestPathWrongFalsely : Prop := fnExactShortestPathRow.holds Try.pinned (OpenSpec.ofChange fnExactShortestPathWrong)

/-- 'laws.FnExactComponentsOf': WHATEVER THE INPUT: true; the input reads as it did. -/
def fnExactComponentsOfSpec : ChangeSpec := { name := "fnExactComponentsOf", fn := fun _ => fun
  | [d] => { results := [.lit (.bool true)], args := [d] }
  | _ => none }
def fnExactComponentsOfRow : OpenClaim := { program := "ytbpllboldphhiaa", sum := "42ee4d709cd87295802eff3fdb69dccfc472d6128a2789ddcdf7d31647e6cadf", func := "loop.example/g00864/laws.FnExactComponentsOf", spec := "fnExactComponentsOf", plainKeys := false, apart := false }
def FnExactComponentsOfSaid : Prop := fnExactComponentsOfRow.holds Try.pinned (OpenSpec.ofChange fnExactComponentsOfSpec)

/-- ITS FALSE NEIGHBOUR: 'it returns false'. Refute it at one input. -/
def fnExactComponentsOfWrong : ChangeSpec := { name := "fnExactComponentsOf", fn := fun _ => fun
  | [d] => { results := [.lit (.bool false)], args := [d] }
  | _ => none }
def FnExactComponentsOfWrongFalsely : Prop := fnExactComponentsOfRow.holds Try.pinned (OpenSpec.ofChange fnExactComponentsOfWrong)

/-- 'laws.FnExactIsGraphLike': WHATEVER THE INPUT: true; the input reads as it did. -/
def fnExactIsGraphLikeSpec : ChangeSpec := { name := "fnExactIsGraphLike", fn := fun _ => fun
  | [d] => { results := [.lit (.bool true)], args := [d] }
  | _ => none }
def fnExactIsGraphLikeRow : OpenClaim := { program := "ytbpllboldphhiaa", sum := "42ee4d709cd87295802eff3fdb69dccfc472d6128a2789ddcdf7d31647e6cadf", func := "loop.example/g00864/laws.FnExactIsGraphLike", spec := "fnExactIsGraphLike", unfollowed := true, recurses := true, plainKeys := false, apart := false }
def FnExactIsGraphLikeSaid : Prop := fnExactIsGraphLikeRow.holds Try.pinned (OpenSpec.ofChange fnExactIsGraphLikeSpec)

/-- ITS FALSE NEIGHBOUR: 'it returns false'. Refute it at one input. -/
def fnExactIsGraphLikeWrong : ChangeSpec := { name := "fnExactIsGraphLike", fn := fun _ => fun
  | [d] => { results := [.lit (.bool false)], args := [d] }
  | _ => none }
def FnExactIsGraphLikeWrongFalsely : Prop := fnExactIsGraphLikeRow.holds Try.pinned (OpenSpec.ofChange fnExactIsGraphLikeWrong)

/-- 'laws.FnExactIsCausalFlow': WHATEVER THE INPUT: true; the input reads as it did. -/
def fnExactIsCausalFlowSpec : ChangeSpec := { name := "fnExactIsCausalFlow", fn := fun _ => fun
  | [d1, d2] => { results := [.lit (.bool true)], args := [d1, d2] }
  | _ => none }
def fnExactIsCausalFlowRow : OpenClaim := { program := "ytbpllboldphhiaa", sum := "42ee4d709cd87295802eff3fdb69dccfc472d6128a2789ddcdf7d31647e6cadf", func := "loop.example/g00864/laws.FnExactIsCausalFlow", spec := "fnExactIsCausalFlow", unfollowed := true, recurses := true, plainKeys := false, apart := false }
def FnExactIsCausalFlowSaid : Prop := fnExactIsCausalFlowRow.holds Try.pinned (OpenSpec.ofChange fnExactIsCausalFlowSpec)

/-- ITS FALSE NEIGHBOUR: 'it returns false'. Refute it at one input. -/
def fnExactIsCausalFlowWrong : ChangeSpec := { name := "fnExactIsCausalFlow", fn := fun _ => fun
  | [d1, d2] => { results := [.lit (.bool false)], args := [d1, d2] }
  | _ => none }
def FnExactIsCausalFlowWrongFalsely : Prop := fnExactIsCausalFlowRow.holds Try.pinned (OpenSpec.ofChange fnExactIsCausalFlowWrong)

/- THE SECOND FORM. 'bulk': how many values and letters a reading holds, each counted each time it is reached (what is shared counts as often as it is met; a slice's spare places count too). A statement '..UptoSaid' is the law's where the arguments, and the package variables that the reading takes, are together of bulk at most 1048576: NARROWER than '..Said'. Prove '..Said' where nothing that the law and all that it calls make is longer than what came in: it says more and counts as full. Else prove '..UptoSaid'. A law counts once. -/
mutual
def uptoBulk {H : Type} : DataW H → Nat
  | .lit (.string bytes) => bytes.length + 1
  | .lit _ => 1
  | .nil => 1
  | .ptr d => uptoBulk d + 1
  | .slice elems spare => uptoBulkAll elems + uptoBulkAll spare + 1
  | .agg parts => uptoBulkAll parts + 1
  | .iface _ d => uptoBulk d + 1
  | .map entries => uptoBulkEntries entries + 1
  | .held _ => 1
def uptoBulkAll {H : Type} : List (DataW H) → Nat
  | [] => 0
  | d :: r => uptoBulk d + uptoBulkAll r
def uptoBulkEntries {H : Type} : List (Lit × DataW H) → Nat
  | [] => 0
  | x :: r => uptoBulkEntry x + uptoBulkEntries r
def uptoBulkEntry {H : Type} : Lit × DataW H → Nat
  | (.string bytes, d) => bytes.length + uptoBulk d + 1
  | (_, d) => uptoBulk d + 1
 end
def uptoSmall : (H : Type) → List (DataW H) → Bool := fun _ ds => decide (uptoBulkAll ds ≤ 1048576)
def OpenSpec.upto (s : _root_.Go.ChangeSpec) : _root_.Go.OpenSpec := { _root_.Go.OpenSpec.ofChange s with cond := some uptoSmall }

/-- 'laws.FnExactLayersOf', WHERE WHAT IT READS IS OF BULK AT MOST 1048576: true; the input reads as it did. -/
def fnExactLayersOfUptoRow : OpenClaim := { program := "ytbpllboldphhiaa", sum := "42ee4d709cd87295802eff3fdb69dccfc472d6128a2789ddcdf7d31647e6cadf", func := "loop.example/g00864/laws.FnExactLayersOf", spec := "fnExactLayersOf", unfollowed := true, recurses := true, plainKeys := false, apart := false, narrowed := true }
def FnExactLayersOfUptoSaid : Prop := fnExactLayersOfUptoRow.holds Try.pinned (OpenSpec.upto fnExactLayersOfSpec)

/-- 'laws.FnExactIsExecutable', WHERE WHAT IT READS IS OF BULK AT MOST 1048576: true; the input reads as it did. -/
def fnExactIsExecutableUptoRow : OpenClaim := { program := "ytbpllboldphhiaa", sum := "42ee4d709cd87295802eff3fdb69dccfc472d6128a2789ddcdf7d31647e6cadf", func := "loop.example/g00864/laws.FnExactIsExecutable", spec := "fnExactIsExecutable", unfollowed := true, recurses := true, plainKeys := false, apart := false, narrowed := true }
def FnExactIsExecutableUptoSaid : Prop := fnExactIsExecutableUptoRow.holds Try.pinned (OpenSpec.upto fnExactIsExecutableSpec)

/-- 'laws.FnExactOddNeighbors', WHERE WHAT IT READS IS OF BULK AT MOST 1048576: true; the input reads as it did. -/
def fnExactOddNeighborsUptoRow : OpenClaim := { program := "ytbpllboldphhiaa", sum := "42ee4d709cd87295802eff3fdb69dccfc472d6128a2789ddcdf7d31647e6cadf", func := "loop.example/g00864/laws.FnExactOddNeighbors", spec := "fnExactOddNeighbors", plainKeys := false, apart := false, narrowed := true }
def FnExactOddNeighborsUptoSaid : Prop := fnExactOddNeighborsUptoRow.holds Try.pinned (OpenSpec.upto fnExactOddNeighborsSpec)

/-- 'laws.FnExactDistancesFrom', WHERE WHAT IT READS IS OF BULK AT MOST 1048576: true; the input reads as it did. -/
def fnExactDistancesFromUptoRow : OpenClaim := { program := "ytbpllboldphhiaa", sum := "42ee4d709cd87295802eff3fdb69dccfc472d6128a2789ddcdf7d31647e6cadf", func := "loop.example/g00864/laws.FnExactDistancesFrom", spec := "fnExactDistancesFrom", plainKeys := false, apart := false, narrowed := true }
def FnExactDistancesFromUptoSaid : Prop := fnExactDistancesFromUptoRow.holds Try.pinned (OpenSpec.upto fnExactDistancesFromSpec)

/-- 'laws.FnExactDiameterOf', WHERE WHAT IT READS IS OF BULK AT MOST 1048576: true; the input reads as it did. -/
def fnExactDiameterOfUptoRow : OpenClaim := { program := "ytbpllboldphhiaa", sum := "42ee4d709cd87295802eff3fdb69dccfc472d6128a2789ddcdf7d31647e6cadf", func := "loop.example/g00864/laws.FnExactDiameterOf", spec := "fnExactDiameterOf", plainKeys := false, apart := false, narrowed := true }
def FnExactDiameterOfUptoSaid : Prop := fnExactDiameterOfUptoRow.holds Try.pinned (OpenSpec.upto fnExactDiameterOfSpec)

/-- 'laws.FnExactIsIdentitySum', WHERE WHAT IT READS IS OF BULK AT MOST 1048576: true; the input reads as it did. -/
def fnExactIsIdentitySumUptoRow : OpenClaim := { program := "ytbpllboldphhiaa", sum := "42ee4d709cd87295802eff3fdb69dccfc472d6128a2789ddcdf7d31647e6cadf", func := "loop.example/g00864/laws.FnExactIsIdentitySum", spec := "fnExactIsIdentitySum", unfollowed := true, recurses := true, plainKeys := false, apart := false, narrowed := true }
def FnExactIsIdentitySumUptoSaid : Prop := fnExactIsIdentitySumUptoRow.holds Try.pinned (OpenSpec.upto fnExactIsIdentitySumSpec)

/-- 'laws.FnExactSymmetriesOf', WHERE WHAT IT READS IS OF BULK AT MOST 1048576: true; the input reads as it did. -/
def fnExactSymmetriesOfUptoRow : OpenClaim := { program := "ytbpllboldphhiaa", sum := "42ee4d709cd87295802eff3fdb69dccfc472d6128a2789ddcdf7d31647e6cadf", func := "loop.example/g00864/laws.FnExactSymmetriesOf", spec := "fnExactSymmetriesOf", unfollowed := true, recurses := true, plainKeys := false, apart := false, narrowed := true }
def FnExactSymmetriesOfUptoSaid : Prop := fnExactSymmetriesOfUptoRow.holds Try.pinned (OpenSpec.upto fnExactSymmetriesOfSpec)

/-- 'laws.FnExactLeastCX', WHERE WHAT IT READS IS OF BULK AT MOST 1048576: true; the input reads as it did. -/
def fnExactLeastCXUptoRow : OpenClaim := { program := "ytbpllboldphhiaa", sum := "42ee4d709cd87295802eff3fdb69dccfc472d6128a2789ddcdf7d31647e6cadf", func := "loop.example/g00864/laws.FnExactLeastCX", spec := "fnExactLeastCX", unfollowed := true, recurses := true, plainKeys := false, apart := false, narrowed := true }
def FnExactLeastCXUptoSaid : Prop := fnExactLeastCXUptoRow.holds Try.pinned (OpenSpec.upto fnExactLeastCXSpec)

/-- 'laws.FnExactShortestPath', WHERE WHAT IT READS IS OF BULK AT MOST 1048576: true; the input reads as it did. -/
def fnExactShortestPathUptoRow : OpenClaim := { program := "ytbpllboldphhiaa", sum := "42ee4d709cd87295802eff3fdb69dccfc472d6128a2789ddcdf7d31647e6cadf", func := "loop.example/g00864/laws.FnExactShortestPath", spec := "fnExactShortestPath", plainKeys := false, apart := false, narrowed := true }
def FnExactShortestPathUptoSaid : Prop := fnExactShortestPathUptoRow.holds Try.pinned (OpenSpec.upto fnExactShortestPathSpec)

/-- 'laws.FnExactComponentsOf', WHERE WHAT IT READS IS OF BULK AT MOST 1048576: true; the input reads as it did. -/
def fnExactComponentsOfUptoRow : OpenClaim := { program := "ytbpllboldphhiaa", sum := "42ee4d709cd87295802eff3fdb69dccfc472d6128a2789ddcdf7d31647e6cadf", func := "loop.example/g00864/laws.FnExactComponentsOf", spec := "fnExactComponentsOf", plainKeys := false, apart := false, narrowed := true }
def FnExactComponentsOfUptoSaid : Prop := fnExactComponentsOfUptoRow.holds Try.pinned (OpenSpec.upto fnExactComponentsOfSpec)

/-- 'laws.FnExactIsGraphLike', WHERE WHAT IT READS IS OF BULK AT MOST 1048576: true; the input reads as it did. -/
def fnExactIsGraphLikeUptoRow : OpenClaim := { program := "ytbpllboldphhiaa", sum := "42ee4d709cd87295802eff3fdb69dccfc472d6128a2789ddcdf7d31647e6cadf", func := "loop.example/g00864/laws.FnExactIsGraphLike", spec := "fnExactIsGraphLike", unfollowed := true, recurses := true, plainKeys := false, apart := false, narrowed := true }
def FnExactIsGraphLikeUptoSaid : Prop := fnExactIsGraphLikeUptoRow.holds Try.pinned (OpenSpec.upto fnExactIsGraphLikeSpec)

/-- 'laws.FnExactIsCausalFlow', WHERE WHAT IT READS IS OF BULK AT MOST 1048576: true; the input reads as it did. -/
def fnExactIsCausalFlowUptoRow : OpenClaim := { program := "ytbpllboldphhiaa", sum := "42ee4d709cd87295802eff3fdb69dccfc472d6128a2789ddcdf7d31647e6cadf", func := "loop.example/g00864/laws.FnExactIsCausalFlow", spec := "fnExactIsCausalFlow", unfollowed := true, recurses := true, plainKeys := false, apart := false, narrowed := true }
def FnExactIsCausalFlowUptoSaid : Prop := fnExactIsCausalFlowUptoRow.holds Try.pinned (OpenSpec.upto fnExactIsCausalFlowSpec)

end Rows
end Go.Proofs.Ytbpllboldphhiaa
