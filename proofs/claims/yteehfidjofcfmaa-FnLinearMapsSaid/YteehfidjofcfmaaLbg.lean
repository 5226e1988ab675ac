/- Plain laws: every map of full rank is found. -/
import Derived.Test.YteehfidjofcfmaaKin
import Derived.Test.YteehfidjofcfmaaGf2
set_option linter.unusedSimpArgs false
set_option linter.unusedVariables false
namespace Go.Proofs.Yteehfidjofcfmaa
open Go Go.RowKit

theorem apx_nil (f : Nat) (x : Int) : apx f [] x = f := by simp [apx, findI]
theorem lstep_nil (n : Nat) (k : List Nat × Nat) (e : Nat) : lstep n [] k e = (cx k.1 (e / n, e % n), k.2) := by rw [lstep, apx_nil]
theorem bev_lstep (n : Nat) : ∀ (w : List Nat) (k : List Nat × Nat), bev (lstep n []) k w = (cxs k.1 (w.map fun e => (e / n, e % n)), k.2)
  | [], k => rfl
  | e :: w, k => by
    have := bev_lstep n w (lstep n [] k e)
    simp only [bev, List.foldl_cons] at this ⊢
    rw [this, lstep_nil]
    rfl
/-- A word of controlled NOTs, by numbers. -/
theorem word_of {n : Nat} : ∀ {w : List (Nat × Nat)}, WOk n w → ∃ v : List Nat, BW (lok n) (n * n) v ∧ v.length = w.length ∧ (v.map fun e => (e / n, e % n)) = w
  | [], _ => ⟨[], fun e he => (by cases he), rfl, rfl⟩
  | (a, b) :: w, h => by
    obtain ⟨v, h1, h2, h3⟩ := word_of (n := n) (w := w) fun e he => h e (by simp [he])
    obtain ⟨ha, hb, hne⟩ := h (a, b) (by simp)
    simp only at ha hb hne
    have hd : (a * n + b) / n = a := by rw [Nat.mul_comm, Nat.mul_add_div (by omega), Nat.div_eq_of_lt hb]; omega
    have hm : (a * n + b) % n = b := by rw [Nat.mul_comm, Nat.mul_add_mod, Nat.mod_eq_of_lt hb]
    refine ⟨(a * n + b) :: v, ?_, by simp [h2], by simp [hd, hm, h3]⟩
    intro e he
    rcases List.mem_cons.1 he with rfl | he
    · refine ⟨?_, ?_⟩
      · have : (a + 1) * n ≤ n * n := Nat.mul_le_mul_right n ha
        rw [Nat.add_mul] at this; omega
      · rw [lok, hd, hm, decide_eq_true_iff]; exact hne
    · exact h1 e he
theorem reach_word {n k : Nat} {l : List Nat} (h : Reach n k (idL n) l) : ∃ v, BW (lok n) (n * n) v ∧ v.length ≤ k ∧ bev (lstep n []) (idL n, 0) v = (l, 0) := by
  obtain ⟨w, h1, h2, h3⟩ := h
  obtain ⟨v, h4, h5, h6⟩ := word_of h1
  exact ⟨v, h4, by omega, by rw [bev_lstep, h6]; simp only; rw [h3]⟩

end Go.Proofs.Yteehfidjofcfmaa
