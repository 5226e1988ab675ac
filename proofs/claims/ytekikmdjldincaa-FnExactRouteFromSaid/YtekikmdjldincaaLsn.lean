/- Plain laws: the route that the search finds. -/
import Derived.Test.YtekikmdjldincaaLsm
import Derived.Test.YtekikmdjldincaaLsf
import Derived.Test.YtekikmdjldincaaProg
set_option linter.unusedSimpArgs false
set_option linter.unusedVariables false
namespace Go.Proofs.Ytekikmdjldincaa
open Go Go.RowKit

theorem rQ_fix {es xs : List Int} {m n : Nat} {s : RK} {i : Nat} (h : (rQ es m xs n s i).length ≤ i) : ∀ d, rQ es m xs n s (i + d) = rQ es m xs n s i
  | 0 => rfl
  | d + 1 => by
    have ih := rQ_fix h d
    have hn : (bfs (kstep es m xs n) (fun _ => true) m s (i + d))[i + d]? = none := by
      have e : bfs (kstep es m xs n) (fun _ => true) m s (i + d) = rQ es m xs n s i := ih
      rw [e]; exact List.getElem?_eq_none (by omega)
    rw [← ih]
    unfold rQ
    rw [show i + (d + 1) = (i + d) + 1 from rfl, bfs, hn]
/-- The path to the first node of the search where all is done. -/
def rtP (M : Nat) (es : List Int) (m : Nat) (xs : List Int) (n : Nat) (s : RK) : Option (List Nat) := ((rQ es m xs n s M).find? fun y => allD y.1.2 n).map (·.2)
theorem find_at {α : Type} {p : α → Bool} : ∀ {l : List α} {i : Nat} {x : α}, l[i]? = some x → p x = true → (∀ j, j < i → ∀ y, l[j]? = some y → p y = false) → l.find? p = some x
  | [], i, x, h, _, _ => by simp at h
  | a :: l, 0, x, h, hp, _ => by
    simp only [List.getElem?_cons_zero, Option.some.injEq] at h; subst h
    simp [List.find?, hp]
  | a :: l, i + 1, x, h, hp, hb => by
    have ha := hb 0 (by omega) a rfl
    rw [List.find?_cons_of_neg (by rw [ha]; decide)]
    exact find_at (by simpa using h) hp fun j hj y hy => hb (j + 1) (by omega) y (by simpa using hy)
theorem rtP_some {M : Nat} {es xs : List Int} {m n : Nat} {s : RK} {i : Nat} {y : RK × List Nat} (hi : i ≤ M) (hy : (rQ es m xs n s i)[i]? = some y) (ha : allD y.1.2 n = true) (hb : ∀ j, j < i → ∀ z, (rQ es m xs n s i)[j]? = some z → allD z.1.2 n = false) : rtP M es m xs n s = some y.2 := by
  obtain ⟨t, ht⟩ := bfs_le (step := kstep es m xs n) (ok := fun _ => true) (E := m) (s := s) hi
  have hl := (List.getElem?_eq_some_iff.1 hy).1
  have e : rQ es m xs n s M = rQ es m xs n s i ++ t := ht
  rw [rtP, e, find_at (p := fun y : RK × List Nat => allD y.1.2 n) (i := i) (x := y) (by rw [List.getElem?_append_left hl]; exact hy) ha fun j hj z hz => hb j hj z (by rwa [List.getElem?_append_left (by omega)] at hz)]
  rfl
theorem rtP_none {M : Nat} {es xs : List Int} {m n : Nat} {s : RK} {i : Nat} (hi : i ≤ M) (hl : (rQ es m xs n s i).length ≤ i) (hb : ∀ j, j < i → ∀ z, (rQ es m xs n s i)[j]? = some z → allD z.1.2 n = false) : rtP M es m xs n s = none := by
  have e : rQ es m xs n s M = rQ es m xs n s i := by rw [show M = i + (M - i) by omega, rQ_fix hl]
  rw [rtP, e, List.find?_eq_none.2]
  · rfl
  · intro y hy
    obtain ⟨j, hj, rfl⟩ := List.getElem_of_mem hy
    rw [hb j (by omega) _ (List.getElem?_eq_getElem hj)]; decide

end Go.Proofs.Ytekikmdjldincaa
