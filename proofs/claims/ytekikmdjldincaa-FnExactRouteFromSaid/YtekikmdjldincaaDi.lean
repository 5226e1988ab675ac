/- Walks: the diameter of a coupling graph. -/
import Derived.Test.YtekikmdjldincaaDs
import Derived.Test.YtekikmdjldincaaLy
import Derived.Test.YtekikmdjldincaaProg
set_option linter.unusedSimpArgs false
set_option linter.unusedVariables false
namespace Go.Proofs.Ytekikmdjldincaa
open Go Go.RowKit

/-- The least of the first m + 1 numbers. -/
def lmn (xs : List Int) : Nat → Int
  | 0 => ix xs 0
  | m + 1 => min (lmn xs m) (ix xs (m + 1))
def negO (o : List Int) (n : Nat) : Bool := anyI (fun v => decide (ix o v < 0)) n
theorem lmn_neg (xs : List Int) : ∀ m, decide (lmn xs m < 0) = negO xs (m + 1)
  | 0 => by show decide (ix xs 0 < 0) = (false || decide (ix xs 0 < 0)); rw [Bool.false_or]
  | m + 1 => by
    have ih := lmn_neg xs m
    rw [negO, anyI, ← negO, ← ih, lmn, ← Bool.decide_or, decide_eq_decide]; omega
def mxV (o : List Int) (a : Int) : Nat → Int
  | 0 => a
  | j + 1 => max (mxV o a j) (ix o j)
theorem mxV_lmx (o : List Int) (a : Int) : ∀ m, mxV o a (m + 1) = max a (lmx o m)
  | 0 => rfl
  | m + 1 => by rw [mxV, mxV_lmx o a m, lmx]; omega
def mxA (D : Nat → List Int) (n : Nat) : Nat → Int
  | 0 => 0
  | k + 1 => mxV (D k) (mxA D n k) n
def diOk (N : Int) (xs : List Int) (n : Nat) (D : Nat → List Int) : Bool := cgOk N xs n && !anyI (fun s => negO (D s) N.toNat) N.toNat
noncomputable def diV (N : Int) (xs : List Int) (n : Nat) (D : Nat → List Int) : Int := if diOk N xs n D then mxA D N.toNat N.toNat else 0

end Go.Proofs.Ytekikmdjldincaa
