/-
  No cell of these rows narrows 'for every input' (looked for: loops, veiled, ifaces, maps, wideKeys, modest, calm, conditions, laid).
  DERIVED. THE GIVEN ROWS OF THIS SEAT. 3 by the template 'for every input the law returns true; each argument reads behind the call as it read before'; 0 by the template 'total and deterministic' (their statements: YtgghmjijjdboeaaTotals.lean).
  GIVEN WITH THE SEED: the statements are not yours to turn. If you find one false, say at which input.
  Laid BY PROGRAM, IN A SANDBOX (cutbox-rows.mjs): the forced cells as the released guide's own fill.sh prints them over the translation a7e1f09d49eaca06… (all of the seat's roots in one cut). By AI agents, Wed Nov 11 2026. No macro, syntax, notation, axiom, sorry.
-/
import Derived.Test.YtgghmjijjdboeaaChecked
import GoSem.Claim
import GoSem.ClaimJoined
import GoSem.ClaimMapViews
import Derived.JoinedTies
import Derived.KernelRfl
namespace Go.Proofs.Ytgghmjijjdboeaa
/- THE CELL 'sum', in the pinned program and in every row, IS THE sha256 OF THE DUMP (.gsa) THAT YtgghmjijjdboeaaProg.lean LOADS. Nothing in Lean hashes anything: it is a label: what it is worth is what the hold of that sum in a sandbox is worth. -/
noncomputable def Try.pinned : Pinned := { name := "ytgghmjijjdboeaa", sum := "a7e1f09d49eaca0640836f64c564ca42267c64ecc747d7fe699718291ae89549", checked := Try.checked }
namespace Rows
def none {H : Type} : Left H := { results := [], args := [] }

/-- 'laws.FnSymmetries': WHATEVER THE INPUT: true; the input reads as it did. -/
def fnSymmetriesSpec : ChangeSpec := { name := "fnSymmetries", fn := fun _ => fun
  | [d1, d2] => { results := [.lit (.bool true)], args := [d1, d2] }
  | _ => none }
def fnSymmetriesRow : OpenClaim := { program := "ytgghmjijjdboeaa", sum := "a7e1f09d49eaca0640836f64c564ca42267c64ecc747d7fe699718291ae89549", func := "loop.example/g00864/laws.FnSymmetries", spec := "fnSymmetries", unfollowed := true, recurses := true, apart := false }
def FnSymmetriesSaid : Prop := fnSymmetriesRow.holds Try.pinned (OpenSpec.ofChange fnSymmetriesSpec)

/-- ITS FALSE NEIGHBOUR: 'it returns false'. Refute it at one input. -/
def fnSymmetriesWrong : ChangeSpec := { name := "fnSymmetries", fn := fun _ => fun
  | [d1, d2] => { results := [.lit (.bool false)], args := [d1, d2] }
  | _ => none }
def FnSymmetriesWrongFalsely : Prop := fnSymmetriesRow.holds Try.pinned (OpenSpec.ofChange fnSymmetriesWrong)

/-- 'laws.FnDevices': WHATEVER THE INPUT: true; the input reads as it did. -/
def fnDevicesSpec : ChangeSpec := { name := "fnDevices", fn := fun _ => fun
  | [d1, d2] => { results := [.lit (.bool true)], args := [d1, d2] }
  | _ => none }
def fnDevicesRow : OpenClaim := { program := "ytgghmjijjdboeaa", sum := "a7e1f09d49eaca0640836f64c564ca42267c64ecc747d7fe699718291ae89549", func := "loop.example/g00864/laws.FnDevices", spec := "fnDevices", apart := false }
def FnDevicesSaid : Prop := fnDevicesRow.holds Try.pinned (OpenSpec.ofChange fnDevicesSpec)

/-- ITS FALSE NEIGHBOUR: 'it returns false'. Refute it at one input. -/
def fnDevicesWrong : ChangeSpec := { name := "fnDevices", fn := fun _ => fun
  | [d1, d2] => { results := [.lit (.bool false)], args := [d1, d2] }
  | _ => none }
def FnDevicesWrongFalsely : Prop := fnDevicesRow.holds Try.pinned (OpenSpec.ofChange fnDevicesWrong)

/-- 'laws.FnRows': WHATEVER THE INPUT: true; the input reads as it did. -/
def fnRowsSpec : ChangeSpec := { name := "fnRows", fn := fun _ => fun
  | [d1, d2] => { results := [.lit (.bool true)], args := [d1, d2] }
  | _ => none }
def fnRowsRow : OpenClaim := { program := "ytgghmjijjdboeaa", sum := "a7e1f09d49eaca0640836f64c564ca42267c64ecc747d7fe699718291ae89549", func := "loop.example/g00864/laws.FnRows", spec := "fnRows", unfollowed := true, recurses := true, apart := false }
def FnRowsSaid : Prop := fnRowsRow.holds Try.pinned (OpenSpec.ofChange fnRowsSpec)

/-- ITS FALSE NEIGHBOUR: 'it returns false'. Refute it at one input. -/
def fnRowsWrong : ChangeSpec := { name := "fnRows", fn := fun _ => fun
  | [d1, d2] => { results := [.lit (.bool false)], args := [d1, d2] }
  | _ => none }
def FnRowsWrongFalsely : Prop := fnRowsRow.holds Try.pinned (OpenSpec.ofChange fnRowsWrong)

/- THE SECOND FORM. 'bulk': how many values and letters a reading holds, each counted each time it is reached (what is shared counts as often as it is met; a slice's spare places count too). A statement '..UptoSaid' is the law's where the arguments, and the package variables that the reading takes, are together of bulk at most 1048576: NARROWER than '..Said'. Prove '..Said' where nothing that the law and all that it calls make is longer than what came in: it says more and counts as full. Else prove '..UptoSaid'. A law counts once. -/
mutual
def uptoBulk {H : Type} : DataW H → Nat
  | .lit (.string bytes) => bytes.length + 1
  | .lit _ => 1
  | .nil => 1
  | .ptr d => uptoBulk d + 1
  | .slice elems spare => uptoBulkAll elems + uptoBulkAll spare + 1
  | .agg parts => uptoBulkAll parts + 1
  | .iface _ d => uptoBulk d + 1
  | .map entries => uptoBulkEntries entries + 1
  | .held _ => 1
def uptoBulkAll {H : Type} : List (DataW H) → Nat
  | [] => 0
  | d :: r => uptoBulk d + uptoBulkAll r
def uptoBulkEntries {H : Type} : List (Lit × DataW H) → Nat
  | [] => 0
  | x :: r => uptoBulkEntry x + uptoBulkEntries r
def uptoBulkEntry {H : Type} : Lit × DataW H → Nat
  | (.string bytes, d) => bytes.length + uptoBulk d + 1
  | (_, d) => uptoBulk d + 1
 end
def uptoSmall : (H : Type) → List (DataW H) → Bool := fun _ ds => decide (uptoBulkAll ds ≤ 1048576)
def OpenSpec.upto (s : _root_.Go.ChangeSpec) : _root_.Go.OpenSpec := { _root_.Go.OpenSpec.ofChange s with cond := some uptoSmall }

/-- 'laws.FnSymmetries', WHERE WHAT IT READS IS OF BULK AT MOST 1048576: true; the input reads as it did. -/
def fnSymmetriesUptoRow : OpenClaim := { program := "ytgghmjijjdboeaa", sum := "a7e1f09d49eaca0640836f64c564ca42267c64ecc747d7fe699718291ae89549", func := "loop.example/g00864/laws.FnSymmetries", spec := "fnSymmetries", unfollowed := true, recurses := true, apart := false, narrowed := true }
def FnSymmetriesUptoSaid : Prop := fnSymmetriesUptoRow.holds Try.pinned (OpenSpec.upto fnSymmetriesSpec)

/-- 'laws.FnDevices', WHERE WHAT IT READS IS OF BULK AT MOST 1048576: true; the input reads as it did. -/
def fnDevicesUptoRow : OpenClaim := { program := "ytgghmjijjdboeaa", sum := "a7e1f09d49eaca0640836f64c564ca42267c64ecc747d7fe699718291ae89549", func := "loop.example/g00864/laws.FnDevices", spec := "fnDevices", apart := false, narrowed := true }
def FnDevicesUptoSaid : Prop := fnDevicesUptoRow.holds Try.pinned (OpenSpec.upto fnDevicesSpec)

/-- 'laws.FnRows', WHERE WHAT IT READS IS OF BULK AT MOST 1048576: true; the input reads as it did. -/
def fnRowsUptoRow : OpenClaim := { program := "ytgghmjijjdboeaa", sum := "a7e1f09d49eaca0640836f64c564ca42267c64ecc747d7fe699718291ae89549", func := "loop.example/g00864/laws.FnRows", spec := "fnRows", unfollowed := true, recurses := true, apart := false, narrowed := true }
def FnRowsUptoSaid : Prop := fnRowsUptoRow.holds Try.pinned (OpenSpec.upto fnRowsSpec)

end Rows
end Go.Proofs.Ytgghmjijjdboeaa
