/- Walks: searches in slices, placements, neighbours in a coupling graph. -/
import Derived.Test.YtadobifnhcafpaaCg2
import Derived.Test.YtadobifnhcafpaaFind
import Derived.Test.YtadobifnhcafpaaProg
set_option linter.unusedSimpArgs false
set_option linter.unusedVariables false
namespace Go.Proofs.Ytadobifnhcafpaa
open Go Go.RowKit

def edgeAt (xs : List Int) (a b : Int) (i : Nat) : Bool := decide (ix xs (i * 2) = a ∧ ix xs (i * 2 + 1) = b ∨ ix xs (i * 2) = b ∧ ix xs (i * 2 + 1) = a)
def joinAt (xs : List Int) (a b : Int) (i : Nat) : Bool := decide (ix xs (i * 2) = a ∧ ix xs (i * 2 + 1) = b)
/-- Two nodes are connected. -/
def adj (xs : List Int) (n : Nat) (a b : Int) : Bool := anyI (edgeAt xs a b) n
theorem adj_join {N : Int} {xs : List Int} {n : Nat} (h : edgesOk N xs n = true) {a b : Int} (hab : a ≠ b) : anyI (joinAt xs (min a b) (max a b)) n = adj xs n a b := by
  refine anyI_congr fun i hi => ?_
  have h1 := (of_decide_eq_true h) i hi
  simp only [edgeOk] at h1
  unfold joinAt edgeAt
  rw [decide_eq_decide]
  omega
theorem adj_self {N : Int} {xs : List Int} {n : Nat} (h : edgesOk N xs n = true) (a : Int) : adj xs n a a = false := by
  refine anyI_false fun i hi => ?_
  have h1 := (of_decide_eq_true h) i hi
  simp only [edgeOk] at h1
  unfold edgeAt
  rw [decide_eq_false_iff_not]
  omega
theorem adj_comm (xs : List Int) (n : Nat) (a b : Int) : adj xs n a b = adj xs n b a := anyI_congr fun i _ => by
  unfold edgeAt
  rw [decide_eq_decide]
  omega
theorem cgOk_N {N : Int} {xs : List Int} {n : Nat} (h : cgOk N xs n = true) : 1 ≤ N ∧ N ≤ 8 := by
  simp only [cgOk, Bool.and_eq_true] at h; exact within_iff.1 h.1
theorem cgOk_edges {N : Int} {xs : List Int} {n : Nat} (h : cgOk N xs n = true) : edgesOk N xs n = true := by
  simp only [cgOk, Bool.and_eq_true] at h; exact h.2
def placeOk (N : Int) (xs : List Int) (m : Nat) : Bool := allI (fun i => within (ix xs i) 0 (N - 1) && !hasI xs (ix xs i) i) m
def nbL (N : Int) (xs : List Int) (n : Nat) (node : Int) : List Int := filterL (fun k => adj xs n node k) N.toNat

end Go.Proofs.Ytadobifnhcafpaa
