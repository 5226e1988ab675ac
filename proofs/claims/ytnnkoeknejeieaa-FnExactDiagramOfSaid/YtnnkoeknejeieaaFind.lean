/- Plain functions: the first index with a property. -/
import Derived.Test.YtnnkoeknejeieaaBase
set_option linter.unusedSimpArgs false
set_option linter.unusedVariables false
namespace Go.Proofs.Ytnnkoeknejeieaa
open Go Go.RowKit

theorem ix_mem {xs : List Int} {i : Nat} (h : i < xs.length) : ix xs i ∈ xs := by
  simp [ix, List.getD, h]
def anyI (p : Nat → Bool) : Nat → Bool
  | 0 => false
  | n + 1 => anyI p n || p n
theorem anyI_iff {p : Nat → Bool} {n : Nat} : anyI p n = true ↔ ∃ i, i < n ∧ p i = true := by
  induction n with
  | zero => simp [anyI]
  | succ n ih =>
    simp only [anyI, Bool.or_eq_true, ih]
    constructor
    · rintro (⟨i, h1, h2⟩ | h)
      · exact ⟨i, by omega, h2⟩
      · exact ⟨n, by omega, h⟩
    · rintro ⟨i, h1, h2⟩
      by_cases h : i = n
      · subst h; exact .inr h2
      · exact .inl ⟨i, by omega, h2⟩
theorem anyI_false {p : Nat → Bool} {n : Nat} (h : ∀ i, i < n → p i = false) : anyI p n = false := by
  cases hb : anyI p n with
  | false => rfl
  | true => obtain ⟨i, h1, h2⟩ := anyI_iff.1 hb; rw [h i h1] at h2; cases h2
theorem anyI_true {p : Nat → Bool} {n i : Nat} (h : i < n) (hp : p i = true) : anyI p n = true := anyI_iff.2 ⟨i, h, hp⟩
theorem anyI_congr {p q : Nat → Bool} {n : Nat} (h : ∀ i, i < n → p i = q i) : anyI p n = anyI q n := by
  induction n with
  | zero => rfl
  | succ n ih => simp only [anyI]; rw [ih fun i hi => h i (by omega), h n (by omega)]
/-- The first index below n with the property, or -1. -/
def findI (p : Nat → Bool) : Nat → Int
  | 0 => -1
  | n + 1 => if anyI p n then findI p n else if p n then n else -1
theorem findI_none {p : Nat → Bool} {n : Nat} (h : ∀ i, i < n → p i = false) : findI p n = -1 := by
  cases n with
  | zero => rfl
  | succ n => rw [findI, anyI_false fun i hi => h i (by omega), h n (by omega)]; rfl
theorem findI_hit {p : Nat → Bool} {n k : Nat} (h : ∀ i, i < k → p i = false) (hk : p k = true) (hn : k < n) : findI p n = k := by
  induction n with
  | zero => omega
  | succ n ih =>
    by_cases e : k = n
    · subst e; rw [findI, anyI_false h, hk]; simp
    · have : anyI p n = true := anyI_true (by omega : k < n) hk
      rw [findI, this, if_pos rfl]; exact ih (by omega)
theorem findI_nonneg {p : Nat → Bool} {n : Nat} : 0 ≤ findI p n ↔ anyI p n = true := by
  induction n with
  | zero => simp [findI, anyI]
  | succ n ih =>
    simp only [findI, anyI, Bool.or_eq_true]
    split
    · rename_i h; simp [ih, h]
    · rename_i h
      split
      · rename_i h2; simp [h2] <;> omega
      · rename_i h2; simp [h, h2]
theorem findI_ge {p : Nat → Bool} {n : Nat} : decide (findI p n ≥ 0) = anyI p n := by
  rw [Bool.eq_iff_iff, decide_eq_true_iff]; exact findI_nonneg
def allI (p : Nat → Bool) (n : Nat) : Bool := !anyI (fun i => !p i) n
theorem allI_iff {p : Nat → Bool} {n : Nat} : allI p n = true ↔ ∀ i, i < n → p i = true := by
  simp only [allI, Bool.not_eq_true']
  constructor
  · intro h i hi
    cases hb : p i with
    | true => rfl
    | false => rw [anyI_true (p := fun i => !p i) hi (by simp [hb])] at h; cases h
  · intro h; exact anyI_false fun i hi => by simp [h i hi]
theorem allI_false {p : Nat → Bool} {n i : Nat} (hi : i < n) (h : p i = false) : allI p n = false := by
  cases hb : allI p n with
  | false => rfl
  | true => rw [allI_iff.1 hb i hi] at h; cases h
/-- A slice's front. -/
theorem Sl.take {w : World} {A : Option Addr} {size n c m : Nat} {xs : List Int} (h : Sl w (.slice A n c) size n (ints xs)) (hm : m ≤ n) : Sl w (.slice A m c) size m (ints (xs.take (m * size))) := by
  have hl := h.len
  obtain ⟨_, A', c', he, h1, h2, h3⟩ := h
  injection he with e1 e2 e3
  subst e1; subst e3
  have hle : m * size ≤ n * size := Nat.mul_le_mul_right _ hm
  refine ⟨by simp; omega, A, c, rfl, by omega, h2, fun h0 => ?_⟩
  obtain ⟨b, o, hA, hb, hr⟩ := h3 (by omega)
  refine ⟨b, o, hA, hb, fun j v hv => hr j v ?_⟩
  have : (ints xs)[j]? = (ints (xs.take (m * size)))[j]? := by
    have hj : j < m * size := by
      have := (List.getElem?_eq_some_iff.1 hv).1
      simp at this; omega
    simp [ints, List.getElem?_take, hj]
  rw [this]; exact hv
/-- The numbers k below n with the property. -/
def filterL (p : Nat → Bool) : Nat → List Int
  | 0 => []
  | k + 1 => filterL p k ++ (if p k then [(k : Int)] else [])
theorem filterL_le (p : Nat → Bool) : ∀ k, (filterL p k).length ≤ k
  | 0 => by simp [filterL]
  | k + 1 => by
    have := filterL_le p k
    simp only [filterL, List.length_append]
    split <;> simp only [List.length_cons, List.length_nil] <;> omega
theorem filterL_congr {p q : Nat → Bool} {n : Nat} (h : ∀ i, i < n → p i = q i) : filterL p n = filterL q n := by
  induction n with
  | zero => rfl
  | succ n ih => simp only [filterL]; rw [ih fun i hi => h i (by omega), h n (by omega)]
def hasI (xs : List Int) (x : Int) (n : Nat) : Bool := anyI (fun i => decide (ix xs i = x)) n
theorem ix_take {xs : List Int} {m i : Nat} (h : i < m) : ix (xs.take m) i = ix xs i := by
  simp [ix, List.getD, List.getElem?_take, h]
theorem hasI_take {xs : List Int} {x : Int} {m : Nat} : hasI (xs.take (m * 1)) x m = hasI xs x m := anyI_congr fun i hi => by rw [ix_take (by omega)]

end Go.Proofs.Ytnnkoeknejeieaa
