/- Plain laws: codes tell maps apart. -/
import Derived.Test.YteehfidjofcfmaaLbg
set_option linter.unusedSimpArgs false
set_option linter.unusedVariables false
namespace Go.Proofs.Yteehfidjofcfmaa
open Go Go.RowKit

theorem cdN_succ {l : List Nat} (h : ∀ i, nx l i < 16) (k : Nat) : cdN l (k + 1) = cdN l k * 16 + nx l k := by
  have := Nat.two_pow_add_eq_or_of_lt (i := 4) (h k) (cdN l k)
  rw [cdN, Nat.mul_comm (cdN l k) 16]
  exact this.symm
theorem cdN_inj {l l' : List Nat} (h : ∀ i, nx l i < 16) (h' : ∀ i, nx l' i < 16) : ∀ k, cdN l k = cdN l' k → ∀ i, i < k → nx l i = nx l' i
  | 0, _, i, hi => by omega
  | k + 1, e, i, hi => by
    rw [cdN_succ h, cdN_succ h'] at e
    have h1 := h k
    have h2 := h' k
    by_cases hk : i = k
    · subst hk; omega
    · exact cdN_inj h h' k (by omega) i (by omega)
theorem code_inj {l l' : List Nat} (hl : l.length = l'.length) (h : ∀ i, nx l i < 16) (h' : ∀ i, nx l' i < 16) (e : cdN l l.length = cdN l' l'.length) : l = l' := by
  rw [← hl] at e
  have key := cdN_inj h h' l.length e
  refine List.ext_getElem hl fun i hi hi' => ?_
  simpa [nx, List.getD, hi, hi'] using key i hi

end Go.Proofs.Yteehfidjofcfmaa
