/- Plain laws: the symmetries of a graph, by all permutations and by extension. -/
import Derived.Test.YtgghmjijjdboeaaComp
set_option linter.unusedSimpArgs false
set_option linter.unusedVariables false
namespace Go.Proofs.Ytgghmjijjdboeaa
open Go Go.RowKit

/-- The lists that f gives at 0, 1, .. -/
def stepsL (f : Nat → List (List Int)) : Nat → List (List Int)
  | 0 => []
  | k + 1 => stepsL f k ++ f k
theorem stepsL_filter (f : Nat → List (List Int)) (p : List Int → Bool) : ∀ m, (stepsL f m).filter p = stepsL (fun k => (f k).filter p) m
  | 0 => rfl
  | m + 1 => by simp only [stepsL, List.filter_append, stepsL_filter f p m]
theorem stepsL_congr {f g : Nat → List (List Int)} (h : ∀ k, f k = g k) : stepsL f = stepsL g := by rw [show f = g from funext h]
theorem stepsL_nil : ∀ m, stepsL (fun _ => []) m = []
  | 0 => rfl
  | m + 1 => by simp [stepsL, stepsL_nil m]
theorem stepsL_le {f : Nat → List (List Int)} {b : Nat} (h : ∀ k, (f k).length ≤ b) : ∀ m, (stepsL f m).length ≤ m * b
  | 0 => by simp [stepsL]
  | m + 1 => by
    have h1 := stepsL_le h m
    have h2 := h m
    simp only [stepsL, List.length_append]
    rw [Nat.add_mul]; omega
/-- All lists that go on from l with d more different numbers below N. -/
def permsF (N : Nat) : Nat → List Int → List (List Int)
  | 0, l => [l]
  | d + 1, l => stepsL (fun k => if hasI l (k : Int) l.length then [] else permsF N d (l ++ [(k : Int)])) N
theorem permsF_le (N : Nat) : ∀ d l, (permsF N d l).length ≤ N ^ d
  | 0, l => by simp [permsF]
  | d + 1, l => by
    rw [permsF, Nat.pow_succ, Nat.mul_comm]
    refine stepsL_le (fun k => ?_) N
    split
    · simp
    · exact permsF_le N d _
/-- A list keeps which nodes are connected. -/
def isSym (xs : List Int) (n : Nat) (p : List Int) : Bool := allI (fun i => allI (fun k => adj xs n i k == adj xs n (ix p i) (ix p k)) i) p.length
/-- A number fits behind a list. -/
def fitB (xs : List Int) (n : Nat) (l : List Int) (x : Int) : Bool := !hasI l x l.length && allI (fun i => adj xs n i l.length == adj xs n (ix l i) x) l.length
def refF (xs : List Int) (n N : Nat) : Nat → List Int → List (List Int)
  | 0, l => [l]
  | d + 1, l => stepsL (fun k => if fitB xs n l (k : Int) then refF xs n N d (l ++ [(k : Int)]) else []) N
theorem refF_le (xs : List Int) (n N : Nat) : ∀ d l, (refF xs n N d l).length ≤ N ^ d
  | 0, l => by simp [refF]
  | d + 1, l => by
    rw [refF, Nat.pow_succ, Nat.mul_comm]
    refine stepsL_le (fun k => ?_) N
    split
    · exact refF_le xs n N d _
    · simp
theorem allI_succ (p : Nat → Bool) (n : Nat) : allI p (n + 1) = (allI p n && p n) := by
  simp only [allI, anyI, Bool.not_or, Bool.not_not]
theorem allI_congr {p q : Nat → Bool} {n : Nat} (h : ∀ i, i < n → p i = q i) : allI p n = allI q n := by
  simp only [allI]; rw [anyI_congr fun i hi => by rw [h i hi]]
theorem isSym_snoc (xs : List Int) (n : Nat) (l : List Int) (x : Int) : isSym xs n (l ++ [x]) = (isSym xs n l && allI (fun i => adj xs n i l.length == adj xs n (ix l i) x) l.length) := by
  simp only [isSym, List.length_append, List.length_cons, List.length_nil]
  rw [allI_succ]
  congr 1
  · refine allI_congr fun i hi => allI_congr fun k hk => ?_
    rw [ix_append_left hi, ix_append_left (by omega)]
  · refine allI_congr fun k hk => ?_
    rw [ix_append_one, ix_append_left hk, adj_comm xs n l.length k, adj_comm xs n x]
/-- Both ways lead to the same lists. -/
theorem perms_ref (xs : List Int) (n N : Nat) : ∀ d l, (permsF N d l).filter (isSym xs n) = if isSym xs n l then refF xs n N d l else []
  | 0, l => by simp only [permsF, refF, List.filter_cons, List.filter_nil]
  | d + 1, l => by
    rw [permsF, stepsL_filter]
    cases hs : isSym xs n l with
    | true =>
      rw [if_pos rfl, refF]
      refine congrFun (stepsL_congr fun k => ?_) N
      cases hh : hasI l (k : Int) l.length with
      | true => simp [fitB, hh]
      | false =>
        simp only [fitB, hh, Bool.not_false, Bool.true_and, Bool.false_eq_true, if_false]
        rw [perms_ref xs n N d, isSym_snoc, hs, Bool.true_and]
    | false =>
      rw [show stepsL _ N = stepsL (fun _ => []) N from congrFun (stepsL_congr fun k => ?_) N, stepsL_nil]
      · simp
      · split
        · rfl
        · rw [perms_ref xs n N d, isSym_snoc, hs, Bool.false_and]; rfl
theorem isSym_nil (xs : List Int) (n : Nat) : isSym xs n [] = true := rfl
/-- The numbers of a list are different. -/
def Dst (l : List Int) : Prop := ∀ i j, i < j → j < l.length → ix l i ≠ ix l j
theorem Dst.snoc {l : List Int} {x : Int} (h : Dst l) (hx : hasI l x l.length = false) : Dst (l ++ [x]) := by
  intro i j hij hj
  simp only [List.length_append, List.length_cons, List.length_nil] at hj
  rw [ix_append_left (show i < l.length by omega)]
  by_cases e : j < l.length
  · rw [ix_append_left e]; exact h i j hij e
  · have : j = l.length := by omega
    subst this
    rw [ix_append_one]
    intro e2
    rw [hasI_mem, decide_eq_false_iff_not] at hx
    exact hx (by rw [← e2]; exact ix_mem hij)
/-- What the search finds behind l: the symmetries among all. -/
def symS (xs : List Int) (n N d : Nat) (l : List Int) : List (List Int) := (permsF N d l).filter (isSym xs n)
def symK (xs : List Int) (n N d : Nat) (l : List Int) (k : Nat) : List (List Int) := (stepsL (fun k => if hasI l (k : Int) l.length then [] else permsF N d (l ++ [(k : Int)])) k).filter (isSym xs n)
theorem symS_zero (xs : List Int) (n N : Nat) (l : List Int) : symS xs n N 0 l = if isSym xs n l then [l] else [] := by
  simp [symS, permsF, List.filter_cons]
theorem symS_succ (xs : List Int) (n N d : Nat) (l : List Int) : symS xs n N (d + 1) l = symK xs n N d l N := rfl
theorem symK_zero (xs : List Int) (n N d : Nat) (l : List Int) : symK xs n N d l 0 = [] := rfl
theorem symK_skip {xs : List Int} {n N d : Nat} {l : List Int} {k : Nat} (h : hasI l (k : Int) l.length = true) : symK xs n N d l (k + 1) = symK xs n N d l k := by
  simp [symK, stepsL, h]
theorem symK_next {xs : List Int} {n N d : Nat} {l : List Int} {k : Nat} (h : hasI l (k : Int) l.length = false) : symK xs n N d l (k + 1) = symK xs n N d l k ++ symS xs n N d (l ++ [(k : Int)]) := by
  simp [symK, stepsL, h, symS]
theorem symS_le (xs : List Int) (n N d : Nat) (l : List Int) : (symS xs n N d l).length ≤ N ^ d := Nat.le_trans (List.length_filter_le _ _) (permsF_le N d l)
theorem symK_le (xs : List Int) (n N d : Nat) (l : List Int) (k : Nat) : (symK xs n N d l k).length ≤ k * N ^ d := by
  refine Nat.le_trans (List.length_filter_le _ _) (stepsL_le (fun k => ?_) k)
  split
  · simp
  · exact permsF_le N d _
def refK (xs : List Int) (n N d : Nat) (l : List Int) (k : Nat) : List (List Int) := stepsL (fun k => if fitB xs n l (k : Int) then refF xs n N d (l ++ [(k : Int)]) else []) k
theorem refF_succ (xs : List Int) (n N d : Nat) (l : List Int) : refF xs n N (d + 1) l = refK xs n N d l N := rfl
theorem refK_skip {xs : List Int} {n N d : Nat} {l : List Int} {k : Nat} (h : fitB xs n l (k : Int) = false) : refK xs n N d l (k + 1) = refK xs n N d l k := by
  simp [refK, stepsL, h]
theorem refK_next {xs : List Int} {n N d : Nat} {l : List Int} {k : Nat} (h : fitB xs n l (k : Int) = true) : refK xs n N d l (k + 1) = refK xs n N d l k ++ refF xs n N d (l ++ [(k : Int)]) := by
  simp [refK, stepsL, h]
theorem refK_le (xs : List Int) (n N d : Nat) (l : List Int) (k : Nat) : (refK xs n N d l k).length ≤ k * N ^ d := by
  refine stepsL_le (fun k => ?_) k
  split
  · exact refF_le xs n N d _
  · simp
/-- The symmetries of a graph of at most six nodes. -/
def symOk (N : Int) (xs : List Int) (n : Nat) : Bool := cgOk N xs n && decide (N ≤ 6)
def symR (N : Int) (xs : List Int) (n : Nat) : List (List Int) := if symOk N xs n then refF xs n N.toNat N.toNat [] else []
theorem symR_perms {N : Int} {xs : List Int} {n : Nat} (h : symOk N xs n = true) : symS xs n N.toNat N.toNat [] = symR N xs n := by
  rw [symR, if_pos h, symS, perms_ref, isSym_nil, if_pos rfl]
/-- Room for the rest of the search. -/
theorem room_next {N d k p q : Nat} (hk : k < N) (h0 : p + N ^ (d + 1) ≤ 1000000) (hq : q ≤ p + k * N ^ d) : q + N ^ d ≤ 1000000 := by
  have h1 : (k + 1) * N ^ d ≤ N * N ^ d := Nat.mul_le_mul_right _ hk
  rw [Nat.pow_succ, Nat.mul_comm] at h0
  rw [Nat.add_mul] at h1
  omega
theorem room6 {N : Nat} (h : N ≤ 6) : N ^ N ≤ 1000000 := by
  rcases (by omega : N = 0 ∨ N = 1 ∨ N = 2 ∨ N = 3 ∨ N = 4 ∨ N = 5 ∨ N = 6) with rfl | rfl | rfl | rfl | rfl | rfl | rfl <;> decide

end Go.Proofs.Ytgghmjijjdboeaa
