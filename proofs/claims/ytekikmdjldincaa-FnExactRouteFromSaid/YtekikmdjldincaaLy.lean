/- Walks: the layers and the depth of a circuit. -/
import Derived.Test.YtekikmdjldincaaTd
import Derived.Test.YtekikmdjldincaaProg
set_option linter.unusedSimpArgs false
set_option linter.unusedVariables false
namespace Go.Proofs.Ytekikmdjldincaa
open Go Go.RowKit

theorem rep0 (n : Nat) : (List.replicate n [Value.int .i64 0]).flatten = ints (List.replicate n 0) := by simp [ints, List.flatten_replicate_singleton]
def outS (inc : Int → Int) (xs : List Int) (n k : Nat) : List Int := deepL inc xs k ++ List.replicate (n - k) 0
theorem outS_length {inc : Int → Int} {xs : List Int} {n k : Nat} (h : k ≤ n) : (outS inc xs n k).length = n := by simp [outS]; omega
theorem outS_n (inc : Int → Int) (xs : List Int) (n : Nat) : outS inc xs n n = deepL inc xs n := by simp [outS]
theorem outS_zero (inc : Int → Int) (xs : List Int) (n : Nat) : outS inc xs n 0 = List.replicate n 0 := by simp [outS, deepL]
theorem ix_outS {inc : Int → Int} {xs : List Int} {n k : Nat} (h : k < n) : ix (outS inc xs n k) k = 0 := by
  simp only [ix, outS, List.getD, List.getElem?_append_right (show (deepL inc xs k).length ≤ k by simp), deepL_length, Nat.sub_self]
  rw [show n - k = (n - k - 1) + 1 by omega, List.replicate_succ]; rfl
theorem ix_outS_succ {inc : Int → Int} {xs : List Int} {n k : Nat} : ix (outS inc xs n (k + 1)) k = dep inc xs k := by
  simp only [ix, outS, List.getD, List.getElem?_append_left (show k < (deepL inc xs (k + 1)).length by simp)]
  exact ix_deepL (by omega)
theorem outS_set {inc : Int → Int} {xs : List Int} {n k : Nat} (h : k < n) : (outS inc xs n k).set k (dep inc xs k) = outS inc xs n (k + 1) := by
  have e : n - k = (n - (k + 1)) + 1 := by omega
  simp only [outS, deepL_succ, e, List.replicate_succ]
  rw [List.set_append_right _ _ (by simp)]
  simp
theorem outS_set0 {inc : Int → Int} {xs : List Int} {n k : Nat} (h : k < n) : (outS inc xs n k).set k 0 = outS inc xs n k := by
  have e : n - k = (n - (k + 1)) + 1 := by omega
  simp only [outS, e, List.replicate_succ]
  rw [List.set_append_right _ _ (by simp)]
  simp
def top1 (b : Int → Int) (Q : List Int) : Int := Q.foldl (fun m q => max m (b q + 1)) 0
theorem top1_take (b : Int → Int) (Q : List Int) {k : Nat} (hk : k < Q.length) : top1 b (Q.take (k + 1)) = max (top1 b (Q.take k)) (b (ix Q k) + 1) := by
  have e : Q.take (k + 1) = Q.take k ++ [ix Q k] := by rw [List.take_add_one]; simp [ix, List.getD, hk]
  rw [e, top1, top1, List.foldl_append]; rfl
theorem top1_dep {xs : List Int} {i : Nat} : top1 (bst incL xs i) (gq xs i) = dep incL xs i := by
  have hb := bst_nonneg (fun k => (incL_range k).1) xs i
  unfold dep gq qs
  by_cases h : ix xs (i * 3) = 12
  · simp [h, top1, top, incL]
  · by_cases h2 : 9 ≤ ix xs (i * 3) ∧ ix xs (i * 3) ≤ 11
    · have h3 := hb (ix xs (i * 3 + 1)); have h4 := hb (ix xs (i * 3 + 2))
      simp only [if_neg h, if_pos h2, top1, top, incL, List.foldl_cons, List.foldl_nil]; omega
    · have h3 := hb (ix xs (i * 3 + 1))
      simp only [if_neg h, if_neg h2, top1, top, incL, List.foldl_cons, List.foldl_nil]; omega
theorem top1_bound {xs : List Int} {i m : Nat} {Q : List Int} : 0 ≤ top1 (bst incL xs i) (Q.take m) ∧ top1 (bst incL xs i) (Q.take m) ≤ i + 1 := by
  have hb := (bst_le (fun k => (incL_range k).2) xs i).1
  have key : ∀ (Q : List Int) (m : Int), 0 ≤ m → m ≤ i + 1 → 0 ≤ Q.foldl (fun m q => max m (bst incL xs i q + 1)) m ∧ Q.foldl (fun m q => max m (bst incL xs i q + 1)) m ≤ i + 1 := by
    intro Q
    induction Q with
    | nil => intro m h1 h2; exact ⟨h1, h2⟩
    | cons a Q ih => intro m h1 h2; have := hb a; exact ih _ (by show 0 ≤ max m (bst incL xs i a + 1); omega) (by show max m (bst incL xs i a + 1) ≤ _; omega)
  exact key _ 0 (by omega) (by omega)
/-- The greatest of the first m + 1 numbers. -/
def lmx (xs : List Int) : Nat → Int
  | 0 => ix xs 0
  | m + 1 => max (lmx xs m) (ix xs (m + 1))
theorem lmx_deep (xs : List Int) (n : Nat) : lmx (deepL incL xs n ++ [0]) n = mxD incL xs n := by
  have hd := dep_nonneg (fun k => (incL_range k).1) xs
  have hix : ∀ j, j < n → ix (deepL incL xs n ++ [0]) j = dep incL xs j := by
    intro j hj
    have : ix (deepL incL xs n ++ [0]) j = ix (deepL incL xs n) j := by simp only [ix, List.getD, List.getElem?_append_left (show j < (deepL incL xs n).length by simpa using hj)]
    rw [this, ix_deepL hj]
  have key : ∀ j, j < n → lmx (deepL incL xs n ++ [0]) j = mxD incL xs (j + 1) := by
    intro j
    induction j with
    | zero => intro h; have := hd 0; simp only [lmx, mxD, hix 0 h]; omega
    | succ j ih => intro h; rw [lmx, ih (by omega), hix (j + 1) h]; rfl
  cases n with
  | zero => simp [lmx, deepL, ix, mxD]
  | succ n =>
    have e : ix (deepL incL xs (n + 1) ++ [0]) (n + 1) = 0 := by
      simp only [ix, List.getD, List.getElem?_append_right (show (deepL incL xs (n + 1)).length ≤ n + 1 by simp), deepL_length, Nat.sub_self]; rfl
    have := (mxD_range incL_range xs (n + 1)).1
    rw [lmx, key n (by omega), e]; omega

end Go.Proofs.Ytekikmdjldincaa
