/- Plain laws: the search for linear maps as a search in breadth. -/
import Derived.Test.YteehfidjofcfmaaLin5
import Derived.Test.YteehfidjofcfmaaBf
set_option linter.unusedSimpArgs false
set_option linter.unusedVariables false
namespace Go.Proofs.Yteehfidjofcfmaa
open Go Go.RowKit

def gat (gs : List (Nat × Nat)) (k : Nat) : Nat × Nat := gs.getD k (0, 0)
/-- One controlled NOT, by its number; what appears is noted. -/
def lstep (n : Nat) (ms : List Int) (k : List Nat × Nat) (e : Nat) : List Nat × Nat := (cx k.1 (e / n, e % n), apx k.2 ms (nx (cx k.1 (e / n, e % n)) (e % n)))
def lok (n e : Nat) : Bool := decide (e / n ≠ e % n)
/-- The number of the k-th controlled NOT. -/
def eK (n k : Nat) : Nat := if k < (cnP n n).length then (gat (cnP n n) k).1 * n + (gat (cnP n n) k).2 else n * n
theorem eK_first : ∀ n, n < 6 → ∀ e, e < eK n 0 → lok n e = false := by decide +kernel
theorem eK_gap : ∀ n, n < 6 → ∀ k, k < (cnP n n).length → ∀ e, e < eK n (k + 1) → eK n k < e → lok n e = false := by decide +kernel
theorem eK_at : ∀ n, n < 6 → ∀ k, k < (cnP n n).length → lok n (eK n k) = true ∧ eK n k / n = (gat (cnP n n) k).1 ∧ eK n k % n = (gat (cnP n n) k).2 ∧ eK n k < n * n ∧ eK n k < eK n (k + 1) := by decide +kernel
theorem eK_in : ∀ n, n < 6 → ∀ k, k < (cnP n n).length → (gat (cnP n n) k).1 < n ∧ (gat (cnP n n) k).2 < n ∧ (gat (cnP n n) k).1 ≠ (gat (cnP n n) k).2 := by decide +kernel
theorem eK_end (n : Nat) : eK n (cnP n n).length = n * n := if_neg (Nat.lt_irrefl _)
section
variable {K : Type} [DecidableEq K] {step : K → Nat → K} {ok : Nat → Bool}
theorem brow_skip {x : K × List Nat} {q : List (K × List Nat)} {a : Nat} : ∀ {d : Nat}, (∀ e, a ≤ e → e < a + d → ok e = false) → brow step ok x q (a + d) = brow step ok x q a
  | 0, _ => rfl
  | d + 1, h => by
    rw [← Nat.add_assoc, brow, bvis, if_neg, brow_skip (d := d) fun e h1 h2 => h e h1 (by omega)]
    rw [h (a + d) (by omega) (by omega)]; simp
end
variable {K : Type} [DecidableEq K] {step : K → Nat → K}
theorem row_first {n : Nat} (hn : n < 6) (x : K × List Nat) (q : List (K × List Nat)) : brow step (lok n) x q (eK n 0) = q := by
  have := brow_skip (step := step) (ok := lok n) (x := x) (q := q) (a := 0) (d := eK n 0) fun e _ h => eK_first n hn e (by omega)
  rw [Nat.zero_add] at this
  rw [this]; rfl
theorem row_next {n : Nat} (hn : n < 6) {k : Nat} (hk : k < (cnP n n).length) (x : K × List Nat) (q : List (K × List Nat)) : brow step (lok n) x q (eK n (k + 1)) = bvis step (lok n) x (brow step (lok n) x q (eK n k)) (eK n k) := by
  have h1 := (eK_at n hn k hk).2.2.2.2
  obtain ⟨d, hd⟩ : ∃ d, eK n (k + 1) = (eK n k + 1) + d := ⟨eK n (k + 1) - (eK n k + 1), by omega⟩
  rw [hd, brow_skip fun e h2 h3 => eK_gap n hn k hk e (by omega) (by omega), brow]
theorem row_end {n : Nat} (x : K × List Nat) (q : List (K × List Nat)) : brow step (lok n) x q (eK n (cnP n n).length) = brow step (lok n) x q (n * n) := by rw [eK_end]

end Go.Proofs.Yteehfidjofcfmaa
