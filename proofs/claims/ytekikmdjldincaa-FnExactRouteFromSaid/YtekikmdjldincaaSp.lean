/- Walks: shortest paths in a coupling graph. -/
import Derived.Test.YtekikmdjldincaaDs
import Derived.Test.YtekikmdjldincaaProg
set_option linter.unusedSimpArgs false
set_option linter.unusedVariables false
namespace Go.Proofs.Ytekikmdjldincaa
open Go Go.RowKit

/-- The neighbours that are one step nearer; the first of them. -/
def nxtP (M : Nat) (xs : List Int) (n : Nat) (o : List Int) (a : Int) (i : Nat) : Bool := decide (ix o (ix (nbL (M : Int) xs n a) i).toNat = ix o a.toNat - 1)
def nxt (M : Nat) (xs : List Int) (n : Nat) (o : List Int) (a : Int) : Int := ix (nbL (M : Int) xs n a) (findI (nxtP M xs n o a) (nbL (M : Int) xs n a).length).toNat
def pathL (M : Nat) (xs : List Int) (n : Nat) (o : List Int) : Nat → Int → List Int
  | 0, a => [a]
  | d + 1, a => a :: pathL M xs n o d (nxt M xs n o a)
def negA (o : List Int) (k : Nat) : Bool := decide (ix o k < 0)
def spL (M : Nat) (xs : List Int) (n : Nat) (o : List Int) (a : Int) : List Int := if ix o a.toNat < 0 then [] else pathL M xs n o (ix o a.toNat).toNat a
theorem pathL_length (M : Nat) (xs : List Int) (n : Nat) (o : List Int) : ∀ d a, (pathL M xs n o d a).length = d + 1
  | 0, _ => rfl
  | d + 1, a => by rw [pathL, List.length_cons, pathL_length M xs n o d]
theorem pathL_tail (M : Nat) (xs : List Int) (n : Nat) (o : List Int) (d : Nat) (a : Int) : pathL M xs n o d a = a :: (pathL M xs n o d a).tail := by
  cases d <;> rfl
theorem nxt_hit {M : Nat} {xs : List Int} {n : Nat} {o : List Int} {a : Int} {m : Nat} (h : ∀ i, i < m → nxtP M xs n o a i = false) (hm : m < (nbL (M : Int) xs n a).length) (hp : nxtP M xs n o a m = true) : nxt M xs n o a = ix (nbL (M : Int) xs n a) m := by
  rw [nxt, findI_hit h hp hm, Int.toNat_natCast]
/-- A node at a positive distance has a neighbour that is one step nearer. -/
theorem nearer {M : Nat} {xs : List Int} {n : Nat} {o : List Int} {s : Nat} (hd : IsDist (adjN xs n) M s o) {a : Int} (h0 : 0 ≤ a) (hM : a < M) (hx : 0 ≤ ix o a.toNat) (hne : a ≠ (s : Int)) :
    0 < ix o a.toNat ∧ ∃ i, i < (nbL (M : Int) xs n a).length ∧ nxtP M xs n o a i = true := by
  rcases hd.par a.toNat (by omega) hx with e | ⟨u, hu, hA, h1, h2⟩
  · exfalso; omega
  · refine ⟨by omega, ?_⟩
    have hA' : adj xs n a (u : Int) = true := by
      rw [adjN, Int.toNat_of_nonneg h0] at hA
      rw [adj_comm]; exact hA
    obtain ⟨i, hi, e⟩ := nb_mem hu hA'
    refine ⟨i, hi, ?_⟩
    rw [nxtP, e, Int.toNat_natCast, decide_eq_true_eq]
    omega
theorem path_go {M : Nat} {xs : List Int} {n : Nat} {o : List Int} {x y : Int} {l P : List Int} (hp : l ++ (pathL M xs n o (ix o x.toNat).toNat x).tail = P) (hpos : 0 < ix o x.toNat) (hy : nxt M xs n o x = y) (hd : ix o y.toNat = ix o x.toNat - 1) :
    (l ++ [y]) ++ (pathL M xs n o (ix o y.toNat).toNat y).tail = P := by
  obtain ⟨d, hd1⟩ : ∃ d, (ix o x.toNat).toNat = d + 1 := ⟨(ix o x.toNat).toNat - 1, by omega⟩
  have hd2 : (ix o y.toNat).toNat = d := by omega
  rw [hd1] at hp
  rw [hd2, List.append_assoc, ← hp, pathL, hy]
  simp only [List.tail_cons]
  rw [List.singleton_append, ← pathL_tail]


def spOk (N : Int) (xs : List Int) (n : Nat) (a b : Int) : Bool := cgOk N xs n && within a 0 (N - 1) && within b 0 (N - 1)
noncomputable def spR (N : Int) (xs : List Int) (n : Nat) (a b : Int) : List Int := if spOk N xs n a b then spL N.toNat xs n (distL xs n N.toNat b.toNat) a else []
noncomputable def spB (N : Int) (xs : List Int) (n : Nat) (a b : Int) : Bool := spOk N xs n a b && !negA (distL xs n N.toNat b.toNat) a.toNat
theorem spL_pos (M : Nat) (xs : List Int) (n : Nat) (o : List Int) (a : Int) : decide (((spL M xs n o a).length : Int) > 0) = !negA o a.toNat := by
  unfold spL negA
  split
  · rename_i h; rw [decide_eq_true h]; rfl
  · rename_i h; rw [decide_eq_false h, pathL_length]; simp <;> omega

end Go.Proofs.Ytekikmdjldincaa
