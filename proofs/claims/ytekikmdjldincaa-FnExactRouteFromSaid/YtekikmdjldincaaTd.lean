/- Walks: gates with a common qubit, TDepthOf of the program and of the reference. -/
import Derived.Test.YtekikmdjldincaaDep
import Derived.Test.YtekikmdjldincaaCg3
import Derived.Test.YtekikmdjldincaaProg
set_option linter.unusedSimpArgs false
set_option linter.unusedVariables false
namespace Go.Proofs.Ytekikmdjldincaa
open Go Go.RowKit

theorem hasI_contains (R : List Int) (x : Int) : hasI R x R.length = R.contains x := by
  rw [Bool.eq_iff_iff, hasI, anyI_iff]
  simp only [decide_eq_true_eq, List.contains_iff_mem]
  constructor
  · rintro ⟨i, h, rfl⟩; exact ix_mem h
  · intro h
    obtain ⟨i, hi, he⟩ := List.getElem_of_mem h
    exact ⟨i, hi, by simp [ix, List.getD, hi, he]⟩
theorem common_true {Q R : List Int} {i : Nat} (h : i < Q.length) (hr : R.contains (ix Q i) = true) : common Q R = true := List.any_eq_true.2 ⟨_, ix_mem h, hr⟩
theorem common_false {Q R : List Int} (h : ∀ i, i < Q.length → R.contains (ix Q i) = false) : common Q R = false := by
  cases hb : common Q R with
  | false => rfl
  | true =>
    obtain ⟨q, hq, hr⟩ := List.any_eq_true.1 hb
    obtain ⟨i, hi, he⟩ := List.getElem_of_mem hq
    have := h i hi
    simp only [ix, List.getD, List.getElem?_eq_getElem hi, Option.getD_some, he] at this
    rw [this] at hr; cases hr


def deepL (inc : Int → Int) (xs : List Int) (k : Nat) : List Int := (List.range k).map (dep inc xs)
@[simp] theorem deepL_length (inc : Int → Int) (xs : List Int) (k : Nat) : (deepL inc xs k).length = k := by simp [deepL]
theorem deepL_succ (inc : Int → Int) (xs : List Int) (k : Nat) : deepL inc xs (k + 1) = deepL inc xs k ++ [dep inc xs k] := by simp [deepL, List.range_succ]
theorem ix_deepL {inc : Int → Int} {xs : List Int} {k m : Nat} (h : m < k) : ix (deepL inc xs k) m = dep inc xs m := by simp [ix, deepL, List.getD, h]

end Go.Proofs.Ytekikmdjldincaa
