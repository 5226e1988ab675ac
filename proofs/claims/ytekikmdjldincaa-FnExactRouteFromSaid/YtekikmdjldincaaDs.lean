/- Walks: distances in a coupling graph. -/
import Derived.Test.YtekikmdjldincaaCg4
import Derived.Test.YtekikmdjldincaaDist
import Derived.Test.YtekikmdjldincaaProg
set_option linter.unusedSimpArgs false
set_option linter.unusedVariables false
namespace Go.Proofs.Ytekikmdjldincaa
open Go Go.RowKit

/-- j times -1, then 0. -/
def repL (N j : Nat) : List Int := List.replicate j (-1) ++ List.replicate (N - j) 0
theorem repL_length {N j : Nat} (h : j ≤ N) : (repL N j).length = N := by simp [repL]; omega
theorem repL_all (N : Nat) : repL N N = List.replicate N (-1) := by simp [repL]
theorem repL_zero (N : Nat) : (List.replicate N [Value.int .i64 0]).flatten = ints (repL N 0) := by simp [repL, ints, List.flatten_replicate_singleton]
theorem repL_spl {N j m : Nat} (h : j + m ≤ N) : spl (ints (repL N j)) j (ints (List.replicate m (-1))) = ints (repL N (j + m)) := by
  rw [spl_eq _ _ _ (by simp [repL]; omega)]
  have e1 : (ints (repL N j)).take j = ints (List.replicate j (-1)) := by simp [ints, repL, List.take_append]
  have e2 : (ints (repL N j)).drop (j + (ints (List.replicate m (-1))).length) = ints (List.replicate (N - (j + m)) 0) := by
    simp only [ints_length, List.length_replicate]
    simp only [ints, repL, List.map_append, List.map_replicate, List.drop_append, List.length_replicate, List.drop_replicate]
    rw [show j - (j + m) = 0 by omega, show N - j - (j + m - j) = N - (j + m) by omega]; rfl
  rw [e1, e2]
  simp only [repL, ← ints_append, List.replicate_append_replicate]
theorem repL_take {N j m : Nat} (hm : m ≤ j) : (ints ((repL N j).take (j * 1))).take (m * 1) = ints (List.replicate m (-1)) := by
  simp only [repL, Nat.mul_one, ints, ← List.map_take, List.take_append, List.take_take, List.length_replicate, Nat.sub_self, List.take_zero, List.append_nil, List.take_replicate]
  rw [show min m (min j j) = m by omega]
  simp


/-- Two nodes are connected, by their numbers. -/
def adjN (xs : List Int) (n : Nat) (a b : Nat) : Bool := adj xs n a b
/-- The distances from node s. -/
noncomputable def distL (xs : List Int) (n N s : Nat) : List Int := Classical.epsilon (IsDist (adjN xs n) N s)
theorem distL_eq {xs : List Int} {n N s : Nat} {o : List Int} (h : IsDist (adjN xs n) N s o) : distL xs n N s = o := (Classical.epsilon_spec (p := IsDist (adjN xs n) N s) ⟨o, h⟩).unique h
theorem filterL_get {p : Nat → Bool} : ∀ {N i : Nat}, i < (filterL p N).length → ∃ v, v < N ∧ p v = true ∧ ix (filterL p N) i = v
  | 0, i, h => by simp [filterL] at h
  | N + 1, i, h => by
    simp only [filterL] at h ⊢
    by_cases e : i < (filterL p N).length
    · obtain ⟨v, h1, h2, h3⟩ := filterL_get e
      exact ⟨v, by omega, h2, by rw [ix_append_left e]; exact h3⟩
    · cases hp : p N with
      | false => rw [hp] at h; simp at h; omega
      | true =>
        rw [hp] at h; simp only [if_true, List.length_append, List.length_cons, List.length_nil] at h
        have e2 : i = (filterL p N).length := by omega
        refine ⟨N, by omega, hp, ?_⟩
        simp only [if_true]; rw [e2]; exact ix_append_one
theorem filterL_mem {p : Nat → Bool} : ∀ {N v : Nat}, v < N → p v = true → ∃ i, i < (filterL p N).length ∧ ix (filterL p N) i = v
  | 0, v, h, _ => by omega
  | N + 1, v, h, hp => by
    simp only [filterL]
    by_cases e : v < N
    · obtain ⟨i, h1, h2⟩ := filterL_mem e hp
      exact ⟨i, by simp only [List.length_append]; omega, by rw [ix_append_left h1]; exact h2⟩
    · have e2 : v = N := by omega
      subst e2
      rw [hp]
      exact ⟨(filterL p v).length, by simp, by simp only [if_true]; exact ix_append_one⟩
theorem nb_get {M : Nat} {xs : List Int} {n : Nat} {u : Int} {m : Nat} (h : m < (nbL (M : Int) xs n u).length) : 0 ≤ ix (nbL (M : Int) xs n u) m ∧ ix (nbL (M : Int) xs n u) m < M ∧ adj xs n u (ix (nbL (M : Int) xs n u) m) = true := by
  obtain ⟨v, h1, h2, h3⟩ := filterL_get h
  simp only [Int.toNat_natCast] at h1
  refine ⟨by rw [nbL, h3]; omega, by rw [nbL, h3]; omega, by rw [nbL, h3]; exact h2⟩
theorem nb_mem {M : Nat} {xs : List Int} {n : Nat} {u : Int} {v : Nat} (hv : v < M) (ha : adj xs n u v = true) : ∃ i, i < (nbL (M : Int) xs n u).length ∧ ix (nbL (M : Int) xs n u) i = v := filterL_mem (by simpa using hv) ha
theorem bfs_push {A : Nat → Nat → Bool} {N s : Nat} {q : List Int} {t : Nat} {o : List Int} (h : InQ A N s q t o) (ht : t < q.length) {k : Int} (h0 : 0 ≤ k) (hk : k < N) (hneg : ix o k.toNat < 0) (ha : A (ix q t).toNat k.toNat = true) :
    InQ A N s (q ++ [k]) t (o.set k.toNat (ix o (ix q t).toNat + 1)) := by
  have := h.push ht (k := k.toNat) (by omega) hneg ha
  rwa [Int.toNat_of_nonneg h0] at this
theorem met_set {o : List Int} {f : Nat → Nat} {m : Nat} {a : Int} (h : ∀ i, i < m → 0 ≤ ix o (f i)) (hl : ∀ i, i < m + 1 → f i < o.length) (ha : 0 ≤ a) : ∀ i, i < m + 1 → 0 ≤ ix (o.set (f m) a) (f i) := by
  intro i hi
  rw [ix_set (hl i hi)]
  split
  · exact ha
  · rename_i hne
    exact h i (by rcases Nat.lt_succ_iff_lt_or_eq.1 hi with h1 | h1; exact h1; exact absurd (by rw [h1]) hne)
theorem met_keep {o : List Int} {f : Nat → Nat} {m : Nat} (h : ∀ i, i < m → 0 ≤ ix o (f i)) (hm : 0 ≤ ix o (f m)) : ∀ i, i < m + 1 → 0 ≤ ix o (f i) := by
  intro i hi
  rcases Nat.lt_succ_iff_lt_or_eq.1 hi with h1 | h1
  · exact h i h1
  · rw [h1]; exact hm
theorem repL_set {N k : Nat} (h : k < N) : (repL N k).set k (-1) = repL N (k + 1) := by
  have e : N - k = (N - (k + 1)) + 1 := by omega
  rw [repL, e, List.replicate_succ, List.set_append_right _ _ (by simp)]
  simp only [List.length_replicate, Nat.sub_self, List.set_cons_zero]
  rw [repL, List.replicate_succ', List.append_assoc]; rfl
theorem InRound.same {A : Nat → Nat → Bool} {N d i k : Nat} {o0 o : List Int} (h : InRound A N d i k o0 o) {u : Nat} (hu : u < N) : ix o u = d ↔ ix o0 u = d := by
  by_cases e : 0 ≤ ix o0 u
  · rw [h.old u hu e]
  · rcases h.new u hu (by omega) with h1 | ⟨h1, _⟩
    · rw [h1]
    · rw [h1]; omega


noncomputable def distR (N : Int) (xs : List Int) (n : Nat) (node : Int) : List Int := if nbOk N xs n node then distL xs n N.toNat node.toNat else []

theorem distR_le (N : Int) (xs : List Int) (n : Nat) (node : Int) (h : nbOk N xs n node = true → IsDist (adjN xs n) N.toNat node.toNat (distL xs n N.toNat node.toNat)) : (distR N xs n node).length ≤ 8 := by
  unfold distR; split
  · rename_i hok
    rw [(h hok).len]
    simp only [nbOk, Bool.and_eq_true] at hok
    have := cgOk_N hok.1; omega
  · simp

end Go.Proofs.Ytekikmdjldincaa
