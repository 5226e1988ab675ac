/- Walks: the neighbours of a node. -/
import Derived.Test.YtoiaibgcjfgbcaaCg3
import Derived.Test.YtoiaibgcjfgbcaaProg
set_option linter.unusedSimpArgs false
set_option linter.unusedVariables false
namespace Go.Proofs.Ytoiaibgcjfgbcaa
open Go Go.RowKit

def nbOk (N : Int) (xs : List Int) (n : Nat) (node : Int) : Bool := cgOk N xs n && within node 0 (N - 1)
def nbR (N : Int) (xs : List Int) (n : Nat) (node : Int) : List Int := if nbOk N xs n node then nbL N xs n node else []
theorem nbR_le (N : Int) (xs : List Int) (n : Nat) (node : Int) : (nbR N xs n node).length ≤ 8 := by
  unfold nbR; split
  · rename_i h
    simp only [nbOk, Bool.and_eq_true] at h
    have := cgOk_N h.1
    have := filterL_le (fun k => adj xs n node k) N.toNat
    simp only [nbL]; omega
  · simp

end Go.Proofs.Ytoiaibgcjfgbcaa
