/- Walks: valid edges, valid coupling graphs; the law FnExactIsValidCouplingGraph. -/
import Derived.Test.YtadobifnhcafpaaCg
import Derived.Test.YtadobifnhcafpaaFind
import Derived.Test.YtadobifnhcafpaaProg
set_option linter.unusedSimpArgs false
set_option linter.unusedVariables false
namespace Go.Proofs.Ytadobifnhcafpaa
open Go Go.RowKit

/-- Edge i of a flat list of edges is in range and behind the one before it. -/
def edgeOk (N : Int) (xs : List Int) (i : Nat) : Prop :=
  0 ≤ ix xs (i * 2) ∧ ix xs (i * 2) < ix xs (i * 2 + 1) ∧ ix xs (i * 2 + 1) < N ∧ (0 < i → ix xs ((i - 1) * 2) < ix xs (i * 2) ∨ (ix xs ((i - 1) * 2) = ix xs (i * 2) ∧ ix xs ((i - 1) * 2 + 1) < ix xs (i * 2 + 1)))
instance (N : Int) (xs : List Int) (i : Nat) : Decidable (edgeOk N xs i) := by unfold edgeOk; infer_instance
def edgesOk (N : Int) (xs : List Int) (n : Nat) : Bool := decide (∀ i, i < n → edgeOk N xs i)
def dec (x : Int) : Int := if x = -9223372036854775808 then 9223372036854775807 else x - 1
theorem dec_cases (x : Int) : dec x = x - 1 ∨ (x = -9223372036854775808 ∧ dec x = 9223372036854775807) := by unfold dec; split <;> omega
theorem wrap_dec {x : Int} (h : In64 x) : IntKind.i64.wrap (x - 1) = dec x := by
  have h1 := h.1; have h2 := h.2
  unfold dec; split
  · rename_i e; subst e; rfl
  · rw [IntKind.wrap_i64]; omega
def cgOk (N : Int) (xs : List Int) (n : Nat) : Bool := within N 1 8 && edgesOk N xs n

end Go.Proofs.Ytadobifnhcafpaa
