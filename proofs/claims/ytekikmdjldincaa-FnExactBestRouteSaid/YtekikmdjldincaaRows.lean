/-
  No cell of these rows narrows 'for every input' (looked for: loops, veiled, ifaces, maps, wideKeys, modest, calm, conditions, laid).
  DERIVED. THE GIVEN ROWS OF THIS SEAT. 3 by the template 'for every input the law returns true; each argument reads behind the call as it read before'; 0 by the template 'total and deterministic' (their statements: YtekikmdjldincaaTotals.lean).
  GIVEN WITH THE SEED: the statements are not yours to turn. If you find one false, say at which input.
  Laid BY PROGRAM, IN A SANDBOX (cutbox-rows.mjs): the forced cells as the released guide's own fill.sh prints them over the translation 279568a8ca09c6ae… (all of the seat's roots in one cut). By AI agents, Wed Nov 11 2026. No macro, syntax, notation, axiom, sorry.
-/
import Derived.Test.YtekikmdjldincaaChecked
import GoSem.Claim
import GoSem.ClaimJoined
import GoSem.ClaimMapViews
import Derived.JoinedTies
import Derived.KernelRfl
namespace Go.Proofs.Ytekikmdjldincaa
/- THE CELL 'sum', in the pinned program and in every row, IS THE sha256 OF THE DUMP (.gsa) THAT YtekikmdjldincaaProg.lean LOADS. Nothing in Lean hashes anything: it is a label: what it is worth is what the hold of that sum in a sandbox is worth. -/
noncomputable def Try.pinned : Pinned := { name := "ytekikmdjldincaa", sum := "279568a8ca09c6ae880122971e3a98ac69634f227bbd04987581639a6ddb8631", checked := Try.checked }
namespace Rows
def none {H : Type} : Left H := { results := [], args := [] }

/-- 'laws.FnExactLeastSwaps': WHATEVER THE INPUT: true; the input reads as it did. -/
def fnExactLeastSwapsSpec : ChangeSpec := { name := "fnExactLeastSwaps", fn := fun _ => fun
  | [d1, d2, d3] => { results := [.lit (.bool true)], args := [d1, d2, d3] }
  | _ => none }
def fnExactLeastSwapsRow : OpenClaim := { program := "ytekikmdjldincaa", sum := "279568a8ca09c6ae880122971e3a98ac69634f227bbd04987581639a6ddb8631", func := "loop.example/g00864/laws.FnExactLeastSwaps", spec := "fnExactLeastSwaps", unfollowed := true, recurses := true, plainKeys := false, apart := false }
def FnExactLeastSwapsSaid : Prop := fnExactLeastSwapsRow.holds Try.pinned (OpenSpec.ofChange fnExactLeastSwapsSpec)

/-- ITS FALSE NEIGHBOUR: 'it returns false'. Refute it at one input. -/
def fnExactLeastSwapsWrong : ChangeSpec := { name := "fnExactLeastSwaps", fn := fun _ => fun
  | [d1, d2, d3] => { results := [.lit (.bool false)], args := [d1, d2, d3] }
  | _ => none }
def FnExactLeastSwapsWrongFalsely : Prop := fnExactLeastSwapsRow.holds Try.pinned (OpenSpec.ofChange fnExactLeastSwapsWrong)

/-- 'laws.FnExactRouteFrom': WHATEVER THE INPUT: true; the input reads as it did. -/
def fnExactRouteFromSpec : ChangeSpec := { name := "fnExactRouteFrom", fn := fun _ => fun
  | [d1, d2, d3] => { results := [.lit (.bool true)], args := [d1, d2, d3] }
  | _ => none }
def fnExactRouteFromRow : OpenClaim := { program := "ytekikmdjldincaa", sum := "279568a8ca09c6ae880122971e3a98ac69634f227bbd04987581639a6ddb8631", func := "loop.example/g00864/laws.FnExactRouteFrom", spec := "fnExactRouteFrom", unfollowed := true, recurses := true, plainKeys := false, apart := false }
def FnExactRouteFromSaid : Prop := fnExactRouteFromRow.holds Try.pinned (OpenSpec.ofChange fnExactRouteFromSpec)

/-- ITS FALSE NEIGHBOUR: 'it returns false'. Refute it at one input. -/
def fnExactRouteFromWrong : ChangeSpec := { name := "fnExactRouteFrom", fn := fun _ => fun
  | [d1, d2, d3] => { results := [.lit (.bool false)], args := [d1, d2, d3] }
  | _ => none }
def FnExactRouteFromWrongFalsely : Prop := fnExactRouteFromRow.holds Try.pinned (OpenSpec.ofChange fnExactRouteFromWrong)

/-- 'laws.FnExactBestRoute': WHATEVER THE INPUT: true; the input reads as it did. -/
def fnExactBestRouteSpec : ChangeSpec := { name := "fnExactBestRoute", fn := fun _ => fun
  | [d1, d2] => { results := [.lit (.bool true)], args := [d1, d2] }
  | _ => none }
def fnExactBestRouteRow : OpenClaim := { program := "ytekikmdjldincaa", sum := "279568a8ca09c6ae880122971e3a98ac69634f227bbd04987581639a6ddb8631", func := "loop.example/g00864/laws.FnExactBestRoute", spec := "fnExactBestRoute", unfollowed := true, recurses := true, plainKeys := false, apart := false }
def FnExactBestRouteSaid : Prop := fnExactBestRouteRow.holds Try.pinned (OpenSpec.ofChange fnExactBestRouteSpec)

/-- ITS FALSE NEIGHBOUR: 'it returns false'. Refute it at one input. -/
def fnExactBestRouteWrong : ChangeSpec := { name := "fnExactBestRoute", fn := fun _ => fun
  | [d1, d2] => { results := [.lit (.bool false)], args := [d1, d2] }
  | _ => none }
def FnExactBestRouteWrongFalsely : Prop := fnExactBestRouteRow.holds Try.pinned (OpenSpec.ofChange fnExactBestRouteWrong)

/- THE SECOND FORM. 'bulk': how many values and letters a reading holds, each counted each time it is reached (what is shared counts as often as it is met; a slice's spare places count too). A statement '..UptoSaid' is the law's where the arguments, and the package variables that the reading takes, are together of bulk at most 1048576: NARROWER than '..Said'. Prove '..Said' where nothing that the law and all that it calls make is longer than what came in: it says more and counts as full. Else prove '..UptoSaid'. A law counts once. -/
mutual
def uptoBulk {H : Type} : DataW H → Nat
  | .lit (.string bytes) => bytes.length + 1
  | .lit _ => 1
  | .nil => 1
  | .ptr d => uptoBulk d + 1
  | .slice elems spare => uptoBulkAll elems + uptoBulkAll spare + 1
  | .agg parts => uptoBulkAll parts + 1
  | .iface _ d => uptoBulk d + 1
  | .map entries => uptoBulkEntries entries + 1
  | .held _ => 1
def uptoBulkAll {H : Type} : List (DataW H) → Nat
  | [] => 0
  | d :: r => uptoBulk d + uptoBulkAll r
def uptoBulkEntries {H : Type} : List (Lit × DataW H) → Nat
  | [] => 0
  | x :: r => uptoBulkEntry x + uptoBulkEntries r
def uptoBulkEntry {H : Type} : Lit × DataW H → Nat
  | (.string bytes, d) => bytes.length + uptoBulk d + 1
  | (_, d) => uptoBulk d + 1
 end
def uptoSmall : (H : Type) → List (DataW H) → Bool := fun _ ds => decide (uptoBulkAll ds ≤ 1048576)
def OpenSpec.upto (s : _root_.Go.ChangeSpec) : _root_.Go.OpenSpec := { _root_.Go.OpenSpec.ofChange s with cond := some uptoSmall }

/-- 'laws.FnExactLeastSwaps', WHERE WHAT IT READS IS OF BULK AT MOST 1048576: true; the input reads as it did. -/
def fnExactLeastSwapsUptoRow : OpenClaim := { program := "ytekikmdjldincaa", sum := "279568a8ca09c6ae880122971e3a98ac69634f227bbd04987581639a6ddb8631", func := "loop.example/g00864/laws.FnExactLeastSwaps", spec := "fnExactLeastSwaps", unfollowed := true, recurses := true, plainKeys := false, apart := false, narrowed := true }
def FnExactLeastSwapsUptoSaid : Prop := fnExactLeastSwapsUptoRow.holds Try.pinned (OpenSpec.upto fnExactLeastSwapsSpec)

/-- 'laws.FnExactRouteFrom', WHERE WHAT IT READS IS OF BULK AT MOST 1048576: true; the input reads as it did. -/
def fnExactRouteFromUptoRow : OpenClaim := { program := "ytekikmdjldincaa", sum := "279568a8ca09c6ae880122971e3a98ac69634f227bbd04987581639a6ddb8631", func := "loop.example/g00864/laws.FnExactRouteFrom", spec := "fnExactRouteFrom", unfollowed := true, recurses := true, plainKeys := false, apart := false, narrowed := true }
def FnExactRouteFromUptoSaid : Prop := fnExactRouteFromUptoRow.holds Try.pinned (OpenSpec.upto fnExactRouteFromSpec)

/-- 'laws.FnExactBestRoute', WHERE WHAT IT READS IS OF BULK AT MOST 1048576: true; the input reads as it did. -/
def fnExactBestRouteUptoRow : OpenClaim := { program := "ytekikmdjldincaa", sum := "279568a8ca09c6ae880122971e3a98ac69634f227bbd04987581639a6ddb8631", func := "loop.example/g00864/laws.FnExactBestRoute", spec := "fnExactBestRoute", unfollowed := true, recurses := true, plainKeys := false, apart := false, narrowed := true }
def FnExactBestRouteUptoSaid : Prop := fnExactBestRouteUptoRow.holds Try.pinned (OpenSpec.upto fnExactBestRouteSpec)

end Rows
end Go.Proofs.Ytekikmdjldincaa
