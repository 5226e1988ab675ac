/-
  No cell of these rows narrows 'for every input' (looked for: loops, veiled, ifaces, maps, wideKeys, modest, calm, conditions, laid).
  DERIVED. THE GIVEN ROWS OF THIS SEAT. 12 by the template 'for every input the law returns true; each argument reads behind the call as it read before'; 0 by the template 'total and deterministic' (their statements: YtbadfklelbapkaaTotals.lean).
  GIVEN WITH THE SEED: the statements are not yours to turn. If you find one false, say at which input.
  Laid BY PROGRAM, IN A SANDBOX (cutbox-rows.mjs): the forced cells as the released guide's own fill.sh prints them over the translation 7632d9c77b9b905a… (all of the seat's roots in one cut). By AI agents, Wed Nov 11 2026. No macro, syntax, notation, axiom, sorry.
-/
import Derived.Test.YtbadfklelbapkaaChecked
import GoSem.Claim
import GoSem.ClaimJoined
import GoSem.ClaimMapViews
import Derived.JoinedTies
import Derived.KernelRfl
namespace Go.Proofs.Ytbadfklelbapkaa
/- THE CELL 'sum', in the pinned program and in every row, IS THE sha256 OF THE DUMP (.gsa) THAT YtbadfklelbapkaaProg.lean LOADS. Nothing in Lean hashes anything: it is a label: what it is worth is what the hold of that sum in a sandbox is worth. -/
noncomputable def Try.pinned : Pinned := { name := "ytbadfklelbapkaa", sum := "7632d9c77b9b905a8ba0684b1cd3e623de03fc58a0779ba4aad842b496ace182", checked := Try.checked }
namespace Rows
def none {H : Type} : Left H := { results := [], args := [] }

/-- 'laws.FnExactSwapBound': WHATEVER THE INPUT: true; the input reads as it did. -/
def fnExactSwapBoundSpec : ChangeSpec := { name := "fnExactSwapBound", fn := fun _ => fun
  | [d1, d2, d3] => { results := [.lit (.bool true)], args := [d1, d2, d3] }
  | _ => none }
def fnExactSwapBoundRow : OpenClaim := { program := "ytbadfklelbapkaa", sum := "7632d9c77b9b905a8ba0684b1cd3e623de03fc58a0779ba4aad842b496ace182", func := "loop.example/g00864/laws.FnExactSwapBound", spec := "fnExactSwapBound", unfollowed := true, recurses := true, plainKeys := false, apart := false }
def FnExactSwapBoundSaid : Prop := fnExactSwapBoundRow.holds Try.pinned (OpenSpec.ofChange fnExactSwapBoundSpec)

/-- ITS FALSE NEIGHBOUR: 'it returns false'. Refute it at one input. -/
def fnExactSwapBoundWrong : ChangeSpec := { name := "fnExactSwapBound", fn := fun _ => fun
  | [d1, d2, d3] => { results := [.lit (.bool false)], args := [d1, d2, d3] }
  | _ => none }
def FnExactSwapBoundWrongFalsely : Prop := fnExactSwapBoundRow.holds Try.pinned (OpenSpec.ofChange fnExactSwapBoundWrong)

/-- 'laws.FnExactGreedyRoute': WHATEVER THE INPUT: true; the input reads as it did. -/
def fnExactGreedyRouteSpec : ChangeSpec := { name := "fnExactGreedyRoute", fn := fun _ => fun
  | [d1, d2, d3] => { results := [.lit (.bool true)], args := [d1, d2, d3] }
  | _ => none }
def fnExactGreedyRouteRow : OpenClaim := { program := "ytbadfklelbapkaa", sum := "7632d9c77b9b905a8ba0684b1cd3e623de03fc58a0779ba4aad842b496ace182", func := "loop.example/g00864/laws.FnExactGreedyRoute", spec := "fnExactGreedyRoute", unfollowed := true, recurses := true, plainKeys := false, apart := false }
def FnExactGreedyRouteSaid : Prop := fnExactGreedyRouteRow.holds Try.pinned (OpenSpec.ofChange fnExactGreedyRouteSpec)

/-- ITS FALSE NEIGHBOUR: 'it returns false'. Refute it at one input. -/
def fnExactGreedyRouteWrong : ChangeSpec := { name := "fnExactGreedyRoute", fn := fun _ => fun
  | [d1, d2, d3] => { results := [.lit (.bool false)], args := [d1, d2, d3] }
  | _ => none }
def FnExactGreedyRouteWrongFalsely : Prop := fnExactGreedyRouteRow.holds Try.pinned (OpenSpec.ofChange fnExactGreedyRouteWrong)

/-- 'laws.FnExactPermutationGates': WHATEVER THE INPUT: true; the input reads as it did. -/
def fnExactPermutationGatesSpec : ChangeSpec := { name := "fnExactPermutationGates", fn := fun _ => fun
  | [d] => { results := [.lit (.bool true)], args := [d] }
  | _ => none }
def fnExactPermutationGatesRow : OpenClaim := { program := "ytbadfklelbapkaa", sum := "7632d9c77b9b905a8ba0684b1cd3e623de03fc58a0779ba4aad842b496ace182", func := "loop.example/g00864/laws.FnExactPermutationGates", spec := "fnExactPermutationGates", recurses := true, plainKeys := false, apart := false }
def FnExactPermutationGatesSaid : Prop := fnExactPermutationGatesRow.holds Try.pinned (OpenSpec.ofChange fnExactPermutationGatesSpec)

/-- ITS FALSE NEIGHBOUR: 'it returns false'. Refute it at one input. -/
def fnExactPermutationGatesWrong : ChangeSpec := { name := "fnExactPermutationGates", fn := fun _ => fun
  | [d] => { results := [.lit (.bool false)], args := [d] }
  | _ => none }
def FnExactPermutationGatesWrongFalsely : Prop := fnExactPermutationGatesRow.holds Try.pinned (OpenSpec.ofChange fnExactPermutationGatesWrong)

/-- 'laws.FnExactSameTrace': WHATEVER THE INPUT: true; the input reads as it did. -/
def fnExactSameTraceSpec : ChangeSpec := { name := "fnExactSameTrace", fn := fun _ => fun
  | [d1, d2] => { results := [.lit (.bool true)], args := [d1, d2] }
  | _ => none }
def fnExactSameTraceRow : OpenClaim := { program := "ytbadfklelbapkaa", sum := "7632d9c77b9b905a8ba0684b1cd3e623de03fc58a0779ba4aad842b496ace182", func := "loop.example/g00864/laws.FnExactSameTrace", spec := "fnExactSameTrace", unfollowed := true, recurses := true, plainKeys := false, apart := false }
def FnExactSameTraceSaid : Prop := fnExactSameTraceRow.holds Try.pinned (OpenSpec.ofChange fnExactSameTraceSpec)

/-- ITS FALSE NEIGHBOUR: 'it returns false'. Refute it at one input. -/
def fnExactSameTraceWrong : ChangeSpec := { name := "fnExactSameTrace", fn := fun _ => fun
  | [d1, d2] => { results := [.lit (.bool false)], args := [d1, d2] }
  | _ => none }
def FnExactSameTraceWrongFalsely : Prop := fnExactSameTraceRow.holds Try.pinned (OpenSpec.ofChange fnExactSameTraceWrong)

/-- 'laws.FnExactFoataOf': WHATEVER THE INPUT: true; the input reads as it did. -/
def fnExactFoataOfSpec : ChangeSpec := { name := "fnExactFoataOf", fn := fun _ => fun
  | [d] => { results := [.lit (.bool true)], args := [d] }
  | _ => none }
def fnExactFoataOfRow : OpenClaim := { program := "ytbadfklelbapkaa", sum := "7632d9c77b9b905a8ba0684b1cd3e623de03fc58a0779ba4aad842b496ace182", func := "loop.example/g00864/laws.FnExactFoataOf", spec := "fnExactFoataOf", unfollowed := true, recurses := true, plainKeys := false, apart := false }
def FnExactFoataOfSaid : Prop := fnExactFoataOfRow.holds Try.pinned (OpenSpec.ofChange fnExactFoataOfSpec)

/-- ITS FALSE NEIGHBOUR: 'it returns false'. Refute it at one input. -/
def fnExactFoataOfWrong : ChangeSpec := { name := "fnExactFoataOf", fn := fun _ => fun
  | [d] => { results := [.lit (.bool false)], args := [d] }
  | _ => none }
def FnExactFoataOfWrongFalsely : Prop := fnExactFoataOfRow.holds Try.pinned (OpenSpec.ofChange fnExactFoataOfWrong)

/-- 'laws.FnExactShortestLinear': WHATEVER THE INPUT: true; the input reads as it did. -/
def fnExactShortestLinearSpec : ChangeSpec := { name := "fnExactShortestLinear", fn := fun _ => fun
  | [d] => { results := [.lit (.bool true)], args := [d] }
  | _ => none }
def fnExactShortestLinearRow : OpenClaim := { program := "ytbadfklelbapkaa", sum := "7632d9c77b9b905a8ba0684b1cd3e623de03fc58a0779ba4aad842b496ace182", func := "loop.example/g00864/laws.FnExactShortestLinear", spec := "fnExactShortestLinear", unfollowed := true, recurses := true, plainKeys := false, apart := false }
def FnExactShortestLinearSaid : Prop := fnExactShortestLinearRow.holds Try.pinned (OpenSpec.ofChange fnExactShortestLinearSpec)

/-- ITS FALSE NEIGHBOUR: 'it returns false'. Refute it at one input. -/
def fnExactShortestLinearWrong : ChangeSpec := { name := "fnExactShortestLinear", fn := fun _ => fun
  | [d] => { results := [.lit (.bool false)], args := [d] }
  | _ => none }
def FnExactShortestLinearWrongFalsely : Prop := fnExactShortestLinearRow.holds Try.pinned (OpenSpec.ofChange fnExactShortestLinearWrong)

/-- 'laws.FnExactLeastNetwork': WHATEVER THE INPUT: true; the input reads as it did. -/
def fnExactLeastNetworkSpec : ChangeSpec := { name := "fnExactLeastNetwork", fn := fun _ => fun
  | [d1, d2] => { results := [.lit (.bool true)], args := [d1, d2] }
  | _ => none }
def fnExactLeastNetworkRow : OpenClaim := { program := "ytbadfklelbapkaa", sum := "7632d9c77b9b905a8ba0684b1cd3e623de03fc58a0779ba4aad842b496ace182", func := "loop.example/g00864/laws.FnExactLeastNetwork", spec := "fnExactLeastNetwork", unfollowed := true, recurses := true, plainKeys := false, apart := false }
def FnExactLeastNetworkSaid : Prop := fnExactLeastNetworkRow.holds Try.pinned (OpenSpec.ofChange fnExactLeastNetworkSpec)

/-- ITS FALSE NEIGHBOUR: 'it returns false'. Refute it at one input. -/
def fnExactLeastNetworkWrong : ChangeSpec := { name := "fnExactLeastNetwork", fn := fun _ => fun
  | [d1, d2] => { results := [.lit (.bool false)], args := [d1, d2] }
  | _ => none }
def FnExactLeastNetworkWrongFalsely : Prop := fnExactLeastNetworkRow.holds Try.pinned (OpenSpec.ofChange fnExactLeastNetworkWrong)

/-- 'laws.FnExactShortestNetwork': WHATEVER THE INPUT: true; the input reads as it did. -/
def fnExactShortestNetworkSpec : ChangeSpec := { name := "fnExactShortestNetwork", fn := fun _ => fun
  | [d1, d2] => { results := [.lit (.bool true)], args := [d1, d2] }
  | _ => none }
def fnExactShortestNetworkRow : OpenClaim := { program := "ytbadfklelbapkaa", sum := "7632d9c77b9b905a8ba0684b1cd3e623de03fc58a0779ba4aad842b496ace182", func := "loop.example/g00864/laws.FnExactShortestNetwork", spec := "fnExactShortestNetwork", unfollowed := true, recurses := true, plainKeys := false, apart := false }
def FnExactShortestNetworkSaid : Prop := fnExactShortestNetworkRow.holds Try.pinned (OpenSpec.ofChange fnExactShortestNetworkSpec)

/-- ITS FALSE NEIGHBOUR: 'it returns false'. Refute it at one input. -/
def fnExactShortestNetworkWrong : ChangeSpec := { name := "fnExactShortestNetwork", fn := fun _ => fun
  | [d1, d2] => { results := [.lit (.bool false)], args := [d1, d2] }
  | _ => none }
def FnExactShortestNetworkWrongFalsely : Prop := fnExactShortestNetworkRow.holds Try.pinned (OpenSpec.ofChange fnExactShortestNetworkWrong)

/-- 'laws.FnExactLeastSwaps': WHATEVER THE INPUT: true; the input reads as it did. -/
def fnExactLeastSwapsSpec : ChangeSpec := { name := "fnExactLeastSwaps", fn := fun _ => fun
  | [d1, d2, d3] => { results := [.lit (.bool true)], args := [d1, d2, d3] }
  | _ => none }
def fnExactLeastSwapsRow : OpenClaim := { program := "ytbadfklelbapkaa", sum := "7632d9c77b9b905a8ba0684b1cd3e623de03fc58a0779ba4aad842b496ace182", func := "loop.example/g00864/laws.FnExactLeastSwaps", spec := "fnExactLeastSwaps", unfollowed := true, recurses := true, plainKeys := false, apart := false }
def FnExactLeastSwapsSaid : Prop := fnExactLeastSwapsRow.holds Try.pinned (OpenSpec.ofChange fnExactLeastSwapsSpec)

/-- ITS FALSE NEIGHBOUR: 'it returns false'. Refute it at one input. -/
def fnExactLeastSwapsWrong : ChangeSpec := { name := "fnExactLeastSwaps", fn := fun _ => fun
  | [d1, d2, d3] => { results := [.lit (.bool false)], args := [d1, d2, d3] }
  | _ => none }
def FnExactLeastSwapsWrongFalsely : Prop := fnExactLeastSwapsRow.holds Try.pinned (OpenSpec.ofChange fnExactLeastSwapsWrong)

/-- 'laws.FnExactRouteFrom': WHATEVER THE INPUT: true; the input reads as it did. -/
def fnExactRouteFromSpec : ChangeSpec := { name := "fnExactRouteFrom", fn := fun _ => fun
  | [d1, d2, d3] => { results := [.lit (.bool true)], args := [d1, d2, d3] }
  | _ => none }
def fnExactRouteFromRow : OpenClaim := { program := "ytbadfklelbapkaa", sum := "7632d9c77b9b905a8ba0684b1cd3e623de03fc58a0779ba4aad842b496ace182", func := "loop.example/g00864/laws.FnExactRouteFrom", spec := "fnExactRouteFrom", unfollowed := true, recurses := true, plainKeys := false, apart := false }
def FnExactRouteFromSaid : Prop := fnExactRouteFromRow.holds Try.pinned (OpenSpec.ofChange fnExactRouteFromSpec)

/-- ITS FALSE NEIGHBOUR: 'it returns false'. Refute it at one input. -/
def fnExactRouteFromWrong : ChangeSpec := { name := "fnExactRouteFrom", fn := fun _ => fun
  | [d1, d2, d3] => { results := [.lit (.bool false)], args := [d1, d2, d3] }
  | _ => none }
def FnExactRouteFromWrongFalsely : Prop := fnExactRouteFromRow.holds Try.pinned (OpenSpec.ofChange fnExactRouteFromWrong)

/-- 'laws.FnExactBestRoute': WHATEVER THE INPUT: true; the input reads as it did. -/
def fnExactBestRouteSpec : ChangeSpec := { name := "fnExactBestRoute", fn := fun _ => fun
  | [d1, d2] => { results := [.lit (.bool true)], args := [d1, d2] }
  | _ => none }
def fnExactBestRouteRow : OpenClaim := { program := "ytbadfklelbapkaa", sum := "7632d9c77b9b905a8ba0684b1cd3e623de03fc58a0779ba4aad842b496ace182", func := "loop.example/g00864/laws.FnExactBestRoute", spec := "fnExactBestRoute", unfollowed := true, recurses := true, plainKeys := false, apart := false }
def FnExactBestRouteSaid : Prop := fnExactBestRouteRow.holds Try.pinned (OpenSpec.ofChange fnExactBestRouteSpec)

/-- ITS FALSE NEIGHBOUR: 'it returns false'. Refute it at one input. -/
def fnExactBestRouteWrong : ChangeSpec := { name := "fnExactBestRoute", fn := fun _ => fun
  | [d1, d2] => { results := [.lit (.bool false)], args := [d1, d2] }
  | _ => none }
def FnExactBestRouteWrongFalsely : Prop := fnExactBestRouteRow.holds Try.pinned (OpenSpec.ofChange fnExactBestRouteWrong)

/-- 'laws.FnExactOperatorOfSum': WHATEVER THE INPUT: true; the input reads as it did. -/
def fnExactOperatorOfSumSpec : ChangeSpec := { name := "fnExactOperatorOfSum", fn := fun _ => fun
  | [d] => { results := [.lit (.bool true)], args := [d] }
  | _ => none }
def fnExactOperatorOfSumRow : OpenClaim := { program := "ytbadfklelbapkaa", sum := "7632d9c77b9b905a8ba0684b1cd3e623de03fc58a0779ba4aad842b496ace182", func := "loop.example/g00864/laws.FnExactOperatorOfSum", spec := "fnExactOperatorOfSum", unfollowed := true, recurses := true, plainKeys := false, apart := false }
def FnExactOperatorOfSumSaid : Prop := fnExactOperatorOfSumRow.holds Try.pinned (OpenSpec.ofChange fnExactOperatorOfSumSpec)

/-- ITS FALSE NEIGHBOUR: 'it returns false'. Refute it at one input. -/
def fnExactOperatorOfSumWrong : ChangeSpec := { name := "fnExactOperatorOfSum", fn := fun _ => fun
  | [d] => { results := [.lit (.bool false)], args := [d] }
  | _ => none }
def FnExactOperatorOfSumWrongFalsely : Prop := fnExactOperatorOfSumRow.holds Try.pinned (OpenSpec.ofChange fnExactOperatorOfSumWrong)

/- THE SECOND FORM. 'bulk': how many values and letters a reading holds, each counted each time it is reached (what is shared counts as often as it is met; a slice's spare places count too). A statement '..UptoSaid' is the law's where the arguments, and the package variables that the reading takes, are together of bulk at most 1048576: NARROWER than '..Said'. Prove '..Said' where nothing that the law and all that it calls make is longer than what came in: it says more and counts as full. Else prove '..UptoSaid'. A law counts once. -/
mutual
def uptoBulk {H : Type} : DataW H → Nat
  | .lit (.string bytes) => bytes.length + 1
  | .lit _ => 1
  | .nil => 1
  | .ptr d => uptoBulk d + 1
  | .slice elems spare => uptoBulkAll elems + uptoBulkAll spare + 1
  | .agg parts => uptoBulkAll parts + 1
  | .iface _ d => uptoBulk d + 1
  | .map entries => uptoBulkEntries entries + 1
  | .held _ => 1
def uptoBulkAll {H : Type} : List (DataW H) → Nat
  | [] => 0
  | d :: r => uptoBulk d + uptoBulkAll r
def uptoBulkEntries {H : Type} : List (Lit × DataW H) → Nat
  | [] => 0
  | x :: r => uptoBulkEntry x + uptoBulkEntries r
def uptoBulkEntry {H : Type} : Lit × DataW H → Nat
  | (.string bytes, d) => bytes.length + uptoBulk d + 1
  | (_, d) => uptoBulk d + 1
 end
def uptoSmall : (H : Type) → List (DataW H) → Bool := fun _ ds => decide (uptoBulkAll ds ≤ 1048576)
def OpenSpec.upto (s : _root_.Go.ChangeSpec) : _root_.Go.OpenSpec := { _root_.Go.OpenSpec.ofChange s with cond := some uptoSmall }

/-- 'laws.FnExactSwapBound', WHERE WHAT IT READS IS OF BULK AT MOST 1048576: true; the input reads as it did. -/
def fnExactSwapBoundUptoRow : OpenClaim := { program := "ytbadfklelbapkaa", sum := "7632d9c77b9b905a8ba0684b1cd3e623de03fc58a0779ba4aad842b496ace182", func := "loop.example/g00864/laws.FnExactSwapBound", spec := "fnExactSwapBound", unfollowed := true, recurses := true, plainKeys := false, apart := false, narrowed := true }
def FnExactSwapBoundUptoSaid : Prop := fnExactSwapBoundUptoRow.holds Try.pinned (OpenSpec.upto fnExactSwapBoundSpec)

/-- 'laws.FnExactGreedyRoute', WHERE WHAT IT READS IS OF BULK AT MOST 1048576: true; the input reads as it did. -/
def fnExactGreedyRouteUptoRow : OpenClaim := { program := "ytbadfklelbapkaa", sum := "7632d9c77b9b905a8ba0684b1cd3e623de03fc58a0779ba4aad842b496ace182", func := "loop.example/g00864/laws.FnExactGreedyRoute", spec := "fnExactGreedyRoute", unfollowed := true, recurses := true, plainKeys := false, apart := false, narrowed := true }
def FnExactGreedyRouteUptoSaid : Prop := fnExactGreedyRouteUptoRow.holds Try.pinned (OpenSpec.upto fnExactGreedyRouteSpec)

/-- 'laws.FnExactPermutationGates', WHERE WHAT IT READS IS OF BULK AT MOST 1048576: true; the input reads as it did. -/
def fnExactPermutationGatesUptoRow : OpenClaim := { program := "ytbadfklelbapkaa", sum := "7632d9c77b9b905a8ba0684b1cd3e623de03fc58a0779ba4aad842b496ace182", func := "loop.example/g00864/laws.FnExactPermutationGates", spec := "fnExactPermutationGates", recurses := true, plainKeys := false, apart := false, narrowed := true }
def FnExactPermutationGatesUptoSaid : Prop := fnExactPermutationGatesUptoRow.holds Try.pinned (OpenSpec.upto fnExactPermutationGatesSpec)

/-- 'laws.FnExactSameTrace', WHERE WHAT IT READS IS OF BULK AT MOST 1048576: true; the input reads as it did. -/
def fnExactSameTraceUptoRow : OpenClaim := { program := "ytbadfklelbapkaa", sum := "7632d9c77b9b905a8ba0684b1cd3e623de03fc58a0779ba4aad842b496ace182", func := "loop.example/g00864/laws.FnExactSameTrace", spec := "fnExactSameTrace", unfollowed := true, recurses := true, plainKeys := false, apart := false, narrowed := true }
def FnExactSameTraceUptoSaid : Prop := fnExactSameTraceUptoRow.holds Try.pinned (OpenSpec.upto fnExactSameTraceSpec)

/-- 'laws.FnExactFoataOf', WHERE WHAT IT READS IS OF BULK AT MOST 1048576: true; the input reads as it did. -/
def fnExactFoataOfUptoRow : OpenClaim := { program := "ytbadfklelbapkaa", sum := "7632d9c77b9b905a8ba0684b1cd3e623de03fc58a0779ba4aad842b496ace182", func := "loop.example/g00864/laws.FnExactFoataOf", spec := "fnExactFoataOf", unfollowed := true, recurses := true, plainKeys := false, apart := false, narrowed := true }
def FnExactFoataOfUptoSaid : Prop := fnExactFoataOfUptoRow.holds Try.pinned (OpenSpec.upto fnExactFoataOfSpec)

/-- 'laws.FnExactShortestLinear', WHERE WHAT IT READS IS OF BULK AT MOST 1048576: true; the input reads as it did. -/
def fnExactShortestLinearUptoRow : OpenClaim := { program := "ytbadfklelbapkaa", sum := "7632d9c77b9b905a8ba0684b1cd3e623de03fc58a0779ba4aad842b496ace182", func := "loop.example/g00864/laws.FnExactShortestLinear", spec := "fnExactShortestLinear", unfollowed := true, recurses := true, plainKeys := false, apart := false, narrowed := true }
def FnExactShortestLinearUptoSaid : Prop := fnExactShortestLinearUptoRow.holds Try.pinned (OpenSpec.upto fnExactShortestLinearSpec)

/-- 'laws.FnExactLeastNetwork', WHERE WHAT IT READS IS OF BULK AT MOST 1048576: true; the input reads as it did. -/
def fnExactLeastNetworkUptoRow : OpenClaim := { program := "ytbadfklelbapkaa", sum := "7632d9c77b9b905a8ba0684b1cd3e623de03fc58a0779ba4aad842b496ace182", func := "loop.example/g00864/laws.FnExactLeastNetwork", spec := "fnExactLeastNetwork", unfollowed := true, recurses := true, plainKeys := false, apart := false, narrowed := true }
def FnExactLeastNetworkUptoSaid : Prop := fnExactLeastNetworkUptoRow.holds Try.pinned (OpenSpec.upto fnExactLeastNetworkSpec)

/-- 'laws.FnExactShortestNetwork', WHERE WHAT IT READS IS OF BULK AT MOST 1048576: true; the input reads as it did. -/
def fnExactShortestNetworkUptoRow : OpenClaim := { program := "ytbadfklelbapkaa", sum := "7632d9c77b9b905a8ba0684b1cd3e623de03fc58a0779ba4aad842b496ace182", func := "loop.example/g00864/laws.FnExactShortestNetwork", spec := "fnExactShortestNetwork", unfollowed := true, recurses := true, plainKeys := false, apart := false, narrowed := true }
def FnExactShortestNetworkUptoSaid : Prop := fnExactShortestNetworkUptoRow.holds Try.pinned (OpenSpec.upto fnExactShortestNetworkSpec)

/-- 'laws.FnExactLeastSwaps', WHERE WHAT IT READS IS OF BULK AT MOST 1048576: true; the input reads as it did. -/
def fnExactLeastSwapsUptoRow : OpenClaim := { program := "ytbadfklelbapkaa", sum := "7632d9c77b9b905a8ba0684b1cd3e623de03fc58a0779ba4aad842b496ace182", func := "loop.example/g00864/laws.FnExactLeastSwaps", spec := "fnExactLeastSwaps", unfollowed := true, recurses := true, plainKeys := false, apart := false, narrowed := true }
def FnExactLeastSwapsUptoSaid : Prop := fnExactLeastSwapsUptoRow.holds Try.pinned (OpenSpec.upto fnExactLeastSwapsSpec)

/-- 'laws.FnExactRouteFrom', WHERE WHAT IT READS IS OF BULK AT MOST 1048576: true; the input reads as it did. -/
def fnExactRouteFromUptoRow : OpenClaim := { program := "ytbadfklelbapkaa", sum := "7632d9c77b9b905a8ba0684b1cd3e623de03fc58a0779ba4aad842b496ace182", func := "loop.example/g00864/laws.FnExactRouteFrom", spec := "fnExactRouteFrom", unfollowed := true, recurses := true, plainKeys := false, apart := false, narrowed := true }
def FnExactRouteFromUptoSaid : Prop := fnExactRouteFromUptoRow.holds Try.pinned (OpenSpec.upto fnExactRouteFromSpec)

/-- 'laws.FnExactBestRoute', WHERE WHAT IT READS IS OF BULK AT MOST 1048576: true; the input reads as it did. -/
def fnExactBestRouteUptoRow : OpenClaim := { program := "ytbadfklelbapkaa", sum := "7632d9c77b9b905a8ba0684b1cd3e623de03fc58a0779ba4aad842b496ace182", func := "loop.example/g00864/laws.FnExactBestRoute", spec := "fnExactBestRoute", unfollowed := true, recurses := true, plainKeys := false, apart := false, narrowed := true }
def FnExactBestRouteUptoSaid : Prop := fnExactBestRouteUptoRow.holds Try.pinned (OpenSpec.upto fnExactBestRouteSpec)

/-- 'laws.FnExactOperatorOfSum', WHERE WHAT IT READS IS OF BULK AT MOST 1048576: true; the input reads as it did. -/
def fnExactOperatorOfSumUptoRow : OpenClaim := { program := "ytbadfklelbapkaa", sum := "7632d9c77b9b905a8ba0684b1cd3e623de03fc58a0779ba4aad842b496ace182", func := "loop.example/g00864/laws.FnExactOperatorOfSum", spec := "fnExactOperatorOfSum", unfollowed := true, recurses := true, plainKeys := false, apart := false, narrowed := true }
def FnExactOperatorOfSumUptoSaid : Prop := fnExactOperatorOfSumUptoRow.holds Try.pinned (OpenSpec.upto fnExactOperatorOfSumSpec)

end Rows
end Go.Proofs.Ytbadfklelbapkaa
