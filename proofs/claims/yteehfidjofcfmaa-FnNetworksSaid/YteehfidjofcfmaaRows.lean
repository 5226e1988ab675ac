/-
  No cell of these rows narrows 'for every input' (looked for: loops, veiled, ifaces, maps, wideKeys, modest, calm, conditions, laid).
  DERIVED. THE GIVEN ROWS OF THIS SEAT. 6 by the template 'for every input the law returns true; each argument reads behind the call as it read before'; 0 by the template 'total and deterministic' (their statements: YteehfidjofcfmaaTotals.lean).
  GIVEN WITH THE SEED: the statements are not yours to turn. If you find one false, say at which input.
  Laid BY PROGRAM, IN A SANDBOX (cutbox-rows.mjs): the forced cells as the released guide's own fill.sh prints them over the translation 30487fab6b442be2… (all of the seat's roots in one cut). By AI agents, Wed Nov 11 2026. No macro, syntax, notation, axiom, sorry.
-/
import Derived.Test.YteehfidjofcfmaaChecked
import GoSem.Claim
import GoSem.ClaimJoined
import GoSem.ClaimMapViews
import Derived.JoinedTies
import Derived.KernelRfl
namespace Go.Proofs.Yteehfidjofcfmaa
/- THE CELL 'sum', in the pinned program and in every row, IS THE sha256 OF THE DUMP (.gsa) THAT YteehfidjofcfmaaProg.lean LOADS. Nothing in Lean hashes anything: it is a label: what it is worth is what the hold of that sum in a sandbox is worth. -/
noncomputable def Try.pinned : Pinned := { name := "yteehfidjofcfmaa", sum := "30487fab6b442be255f77fa406c6357ac4f9afd8f102ef72db4a75951f2d59c3", checked := Try.checked }
namespace Rows
def none {H : Type} : Left H := { results := [], args := [] }

/-- 'laws.FnExactLeastCX': WHATEVER THE INPUT: true; the input reads as it did. -/
def fnExactLeastCXSpec : ChangeSpec := { name := "fnExactLeastCX", fn := fun _ => fun
  | [d] => { results := [.lit (.bool true)], args := [d] }
  | _ => none }
def fnExactLeastCXRow : OpenClaim := { program := "yteehfidjofcfmaa", sum := "30487fab6b442be255f77fa406c6357ac4f9afd8f102ef72db4a75951f2d59c3", func := "loop.example/g00864/laws.FnExactLeastCX", spec := "fnExactLeastCX", unfollowed := true, recurses := true, plainKeys := false, apart := false }
def FnExactLeastCXSaid : Prop := fnExactLeastCXRow.holds Try.pinned (OpenSpec.ofChange fnExactLeastCXSpec)

/-- ITS FALSE NEIGHBOUR: 'it returns false'. Refute it at one input. -/
def fnExactLeastCXWrong : ChangeSpec := { name := "fnExactLeastCX", fn := fun _ => fun
  | [d] => { results := [.lit (.bool false)], args := [d] }
  | _ => none }
def FnExactLeastCXWrongFalsely : Prop := fnExactLeastCXRow.holds Try.pinned (OpenSpec.ofChange fnExactLeastCXWrong)

/-- 'laws.FnExactLeastNetwork': WHATEVER THE INPUT: true; the input reads as it did. -/
def fnExactLeastNetworkSpec : ChangeSpec := { name := "fnExactLeastNetwork", fn := fun _ => fun
  | [d1, d2] => { results := [.lit (.bool true)], args := [d1, d2] }
  | _ => none }
def fnExactLeastNetworkRow : OpenClaim := { program := "yteehfidjofcfmaa", sum := "30487fab6b442be255f77fa406c6357ac4f9afd8f102ef72db4a75951f2d59c3", func := "loop.example/g00864/laws.FnExactLeastNetwork", spec := "fnExactLeastNetwork", unfollowed := true, recurses := true, plainKeys := false, apart := false }
def FnExactLeastNetworkSaid : Prop := fnExactLeastNetworkRow.holds Try.pinned (OpenSpec.ofChange fnExactLeastNetworkSpec)

/-- ITS FALSE NEIGHBOUR: 'it returns false'. Refute it at one input. -/
def fnExactLeastNetworkWrong : ChangeSpec := { name := "fnExactLeastNetwork", fn := fun _ => fun
  | [d1, d2] => { results := [.lit (.bool false)], args := [d1, d2] }
  | _ => none }
def FnExactLeastNetworkWrongFalsely : Prop := fnExactLeastNetworkRow.holds Try.pinned (OpenSpec.ofChange fnExactLeastNetworkWrong)

/-- 'laws.FnExactShortestLinear': WHATEVER THE INPUT: true; the input reads as it did. -/
def fnExactShortestLinearSpec : ChangeSpec := { name := "fnExactShortestLinear", fn := fun _ => fun
  | [d] => { results := [.lit (.bool true)], args := [d] }
  | _ => none }
def fnExactShortestLinearRow : OpenClaim := { program := "yteehfidjofcfmaa", sum := "30487fab6b442be255f77fa406c6357ac4f9afd8f102ef72db4a75951f2d59c3", func := "loop.example/g00864/laws.FnExactShortestLinear", spec := "fnExactShortestLinear", unfollowed := true, recurses := true, plainKeys := false, apart := false }
def FnExactShortestLinearSaid : Prop := fnExactShortestLinearRow.holds Try.pinned (OpenSpec.ofChange fnExactShortestLinearSpec)

/-- ITS FALSE NEIGHBOUR: 'it returns false'. Refute it at one input. -/
def fnExactShortestLinearWrong : ChangeSpec := { name := "fnExactShortestLinear", fn := fun _ => fun
  | [d] => { results := [.lit (.bool false)], args := [d] }
  | _ => none }
def FnExactShortestLinearWrongFalsely : Prop := fnExactShortestLinearRow.holds Try.pinned (OpenSpec.ofChange fnExactShortestLinearWrong)

/-- 'laws.FnExactShortestNetwork': WHATEVER THE INPUT: true; the input reads as it did. -/
def fnExactShortestNetworkSpec : ChangeSpec := { name := "fnExactShortestNetwork", fn := fun _ => fun
  | [d1, d2] => { results := [.lit (.bool true)], args := [d1, d2] }
  | _ => none }
def fnExactShortestNetworkRow : OpenClaim := { program := "yteehfidjofcfmaa", sum := "30487fab6b442be255f77fa406c6357ac4f9afd8f102ef72db4a75951f2d59c3", func := "loop.example/g00864/laws.FnExactShortestNetwork", spec := "fnExactShortestNetwork", unfollowed := true, recurses := true, plainKeys := false, apart := false }
def FnExactShortestNetworkSaid : Prop := fnExactShortestNetworkRow.holds Try.pinned (OpenSpec.ofChange fnExactShortestNetworkSpec)

/-- ITS FALSE NEIGHBOUR: 'it returns false'. Refute it at one input. -/
def fnExactShortestNetworkWrong : ChangeSpec := { name := "fnExactShortestNetwork", fn := fun _ => fun
  | [d1, d2] => { results := [.lit (.bool false)], args := [d1, d2] }
  | _ => none }
def FnExactShortestNetworkWrongFalsely : Prop := fnExactShortestNetworkRow.holds Try.pinned (OpenSpec.ofChange fnExactShortestNetworkWrong)

/-- 'laws.FnLinearMaps': WHATEVER THE INPUT: true; the input reads as it did. -/
def fnLinearMapsSpec : ChangeSpec := { name := "fnLinearMaps", fn := fun _ => fun
  | [d1, d2] => { results := [.lit (.bool true)], args := [d1, d2] }
  | _ => none }
def fnLinearMapsRow : OpenClaim := { program := "yteehfidjofcfmaa", sum := "30487fab6b442be255f77fa406c6357ac4f9afd8f102ef72db4a75951f2d59c3", func := "loop.example/g00864/laws.FnLinearMaps", spec := "fnLinearMaps", unfollowed := true, recurses := true, plainKeys := false, apart := false }
def FnLinearMapsSaid : Prop := fnLinearMapsRow.holds Try.pinned (OpenSpec.ofChange fnLinearMapsSpec)

/-- ITS FALSE NEIGHBOUR: 'it returns false'. Refute it at one input. -/
def fnLinearMapsWrong : ChangeSpec := { name := "fnLinearMaps", fn := fun _ => fun
  | [d1, d2] => { results := [.lit (.bool false)], args := [d1, d2] }
  | _ => none }
def FnLinearMapsWrongFalsely : Prop := fnLinearMapsRow.holds Try.pinned (OpenSpec.ofChange fnLinearMapsWrong)

/-- 'laws.FnNetworks': WHATEVER THE INPUT: true; the input reads as it did. -/
def fnNetworksSpec : ChangeSpec := { name := "fnNetworks", fn := fun _ => fun
  | [d1, d2] => { results := [.lit (.bool true)], args := [d1, d2] }
  | _ => none }
def fnNetworksRow : OpenClaim := { program := "yteehfidjofcfmaa", sum := "30487fab6b442be255f77fa406c6357ac4f9afd8f102ef72db4a75951f2d59c3", func := "loop.example/g00864/laws.FnNetworks", spec := "fnNetworks", unfollowed := true, recurses := true, plainKeys := false, apart := false }
def FnNetworksSaid : Prop := fnNetworksRow.holds Try.pinned (OpenSpec.ofChange fnNetworksSpec)

/-- ITS FALSE NEIGHBOUR: 'it returns false'. Refute it at one input. -/
def fnNetworksWrong : ChangeSpec := { name := "fnNetworks", fn := fun _ => fun
  | [d1, d2] => { results := [.lit (.bool false)], args := [d1, d2] }
  | _ => none }
def FnNetworksWrongFalsely : Prop := fnNetworksRow.holds Try.pinned (OpenSpec.ofChange fnNetworksWrong)

/- THE SECOND FORM. 'bulk': how many values and letters a reading holds, each counted each time it is reached (what is shared counts as often as it is met; a slice's spare places count too). A statement '..UptoSaid' is the law's where the arguments, and the package variables that the reading takes, are together of bulk at most 1048576: NARROWER than '..Said'. Prove '..Said' where nothing that the law and all that it calls make is longer than what came in: it says more and counts as full. Else prove '..UptoSaid'. A law counts once. -/
mutual
def uptoBulk {H : Type} : DataW H → Nat
  | .lit (.string bytes) => bytes.length + 1
  | .lit _ => 1
  | .nil => 1
  | .ptr d => uptoBulk d + 1
  | .slice elems spare => uptoBulkAll elems + uptoBulkAll spare + 1
  | .agg parts => uptoBulkAll parts + 1
  | .iface _ d => uptoBulk d + 1
  | .map entries => uptoBulkEntries entries + 1
  | .held _ => 1
def uptoBulkAll {H : Type} : List (DataW H) → Nat
  | [] => 0
  | d :: r => uptoBulk d + uptoBulkAll r
def uptoBulkEntries {H : Type} : List (Lit × DataW H) → Nat
  | [] => 0
  | x :: r => uptoBulkEntry x + uptoBulkEntries r
def uptoBulkEntry {H : Type} : Lit × DataW H → Nat
  | (.string bytes, d) => bytes.length + uptoBulk d + 1
  | (_, d) => uptoBulk d + 1
 end
def uptoSmall : (H : Type) → List (DataW H) → Bool := fun _ ds => decide (uptoBulkAll ds ≤ 1048576)
def OpenSpec.upto (s : _root_.Go.ChangeSpec) : _root_.Go.OpenSpec := { _root_.Go.OpenSpec.ofChange s with cond := some uptoSmall }

/-- 'laws.FnExactLeastCX', WHERE WHAT IT READS IS OF BULK AT MOST 1048576: true; the input reads as it did. -/
def fnExactLeastCXUptoRow : OpenClaim := { program := "yteehfidjofcfmaa", sum := "30487fab6b442be255f77fa406c6357ac4f9afd8f102ef72db4a75951f2d59c3", func := "loop.example/g00864/laws.FnExactLeastCX", spec := "fnExactLeastCX", unfollowed := true, recurses := true, plainKeys := false, apart := false, narrowed := true }
def FnExactLeastCXUptoSaid : Prop := fnExactLeastCXUptoRow.holds Try.pinned (OpenSpec.upto fnExactLeastCXSpec)

/-- 'laws.FnExactLeastNetwork', WHERE WHAT IT READS IS OF BULK AT MOST 1048576: true; the input reads as it did. -/
def fnExactLeastNetworkUptoRow : OpenClaim := { program := "yteehfidjofcfmaa", sum := "30487fab6b442be255f77fa406c6357ac4f9afd8f102ef72db4a75951f2d59c3", func := "loop.example/g00864/laws.FnExactLeastNetwork", spec := "fnExactLeastNetwork", unfollowed := true, recurses := true, plainKeys := false, apart := false, narrowed := true }
def FnExactLeastNetworkUptoSaid : Prop := fnExactLeastNetworkUptoRow.holds Try.pinned (OpenSpec.upto fnExactLeastNetworkSpec)

/-- 'laws.FnExactShortestLinear', WHERE WHAT IT READS IS OF BULK AT MOST 1048576: true; the input reads as it did. -/
def fnExactShortestLinearUptoRow : OpenClaim := { program := "yteehfidjofcfmaa", sum := "30487fab6b442be255f77fa406c6357ac4f9afd8f102ef72db4a75951f2d59c3", func := "loop.example/g00864/laws.FnExactShortestLinear", spec := "fnExactShortestLinear", unfollowed := true, recurses := true, plainKeys := false, apart := false, narrowed := true }
def FnExactShortestLinearUptoSaid : Prop := fnExactShortestLinearUptoRow.holds Try.pinned (OpenSpec.upto fnExactShortestLinearSpec)

/-- 'laws.FnExactShortestNetwork', WHERE WHAT IT READS IS OF BULK AT MOST 1048576: true; the input reads as it did. -/
def fnExactShortestNetworkUptoRow : OpenClaim := { program := "yteehfidjofcfmaa", sum := "30487fab6b442be255f77fa406c6357ac4f9afd8f102ef72db4a75951f2d59c3", func := "loop.example/g00864/laws.FnExactShortestNetwork", spec := "fnExactShortestNetwork", unfollowed := true, recurses := true, plainKeys := false, apart := false, narrowed := true }
def FnExactShortestNetworkUptoSaid : Prop := fnExactShortestNetworkUptoRow.holds Try.pinned (OpenSpec.upto fnExactShortestNetworkSpec)

/-- 'laws.FnLinearMaps', WHERE WHAT IT READS IS OF BULK AT MOST 1048576: true; the input reads as it did. -/
def fnLinearMapsUptoRow : OpenClaim := { program := "yteehfidjofcfmaa", sum := "30487fab6b442be255f77fa406c6357ac4f9afd8f102ef72db4a75951f2d59c3", func := "loop.example/g00864/laws.FnLinearMaps", spec := "fnLinearMaps", unfollowed := true, recurses := true, plainKeys := false, apart := false, narrowed := true }
def FnLinearMapsUptoSaid : Prop := fnLinearMapsUptoRow.holds Try.pinned (OpenSpec.upto fnLinearMapsSpec)

/-- 'laws.FnNetworks', WHERE WHAT IT READS IS OF BULK AT MOST 1048576: true; the input reads as it did. -/
def fnNetworksUptoRow : OpenClaim := { program := "yteehfidjofcfmaa", sum := "30487fab6b442be255f77fa406c6357ac4f9afd8f102ef72db4a75951f2d59c3", func := "loop.example/g00864/laws.FnNetworks", spec := "fnNetworks", unfollowed := true, recurses := true, plainKeys := false, apart := false, narrowed := true }
def FnNetworksUptoSaid : Prop := fnNetworksUptoRow.holds Try.pinned (OpenSpec.upto fnNetworksSpec)

end Rows
end Go.Proofs.Yteehfidjofcfmaa
