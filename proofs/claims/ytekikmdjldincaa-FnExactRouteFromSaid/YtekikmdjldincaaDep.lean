/- Plain functions: the depths of the gates of a circuit. -/
import Derived.Test.YtekikmdjldincaaCi
set_option linter.unusedSimpArgs false
set_option linter.unusedVariables false
namespace Go.Proofs.Ytekikmdjldincaa
open Go Go.RowKit

/-- The qubits of gate i. -/
def gq (xs : List Int) (i : Nat) : List Int := qs (ix xs (i * 3)) (ix xs (i * 3 + 1)) (ix xs (i * 3 + 2))
/-- The greatest value at some qubits. -/
def top (b : Int → Int) (Q : List Int) : Int := Q.foldl (fun m q => max m (b q)) 0
/-- The depth at a qubit behind the first i gates, where a gate of kind k counts inc k. -/
def bst (inc : Int → Int) (xs : List Int) : Nat → Int → Int
  | 0, _ => 0
  | i + 1, q => if (gq xs i).contains q then top (bst inc xs i) (gq xs i) + inc (ix xs (i * 3)) else bst inc xs i q
/-- The depth of gate i. -/
def dep (inc : Int → Int) (xs : List Int) (i : Nat) : Int := top (bst inc xs i) (gq xs i) + inc (ix xs (i * 3))
theorem bst_succ (inc : Int → Int) (xs : List Int) (i : Nat) (q : Int) : bst inc xs (i + 1) q = if (gq xs i).contains q then dep inc xs i else bst inc xs i q := rfl
def common (Q R : List Int) : Bool := Q.any fun q => R.contains q
/-- The greatest depth of a gate before j that has a qubit in common with Q. -/
def mxC (inc : Int → Int) (xs : List Int) (Q : List Int) : Nat → Int
  | 0 => 0
  | j + 1 => if common Q (gq xs j) then max (mxC inc xs Q j) (dep inc xs j) else mxC inc xs Q j
theorem qs_cases (k a b : Int) : qs k a b = [] ∨ qs k a b = [a, b] ∨ qs k a b = [a] := by
  unfold qs; split
  · exact .inl rfl
  · split
    · exact .inr (.inl rfl)
    · exact .inr (.inr rfl)
theorem gq_cases (xs : List Int) (i : Nat) : gq xs i = [] ∨ (∃ a b, gq xs i = [a, b]) ∨ ∃ a, gq xs i = [a] := by
  rcases qs_cases (ix xs (i * 3)) (ix xs (i * 3 + 1)) (ix xs (i * 3 + 2)) with h | h | h
  · exact .inl h
  · exact .inr (.inl ⟨_, _, h⟩)
  · exact .inr (.inr ⟨_, h⟩)
theorem top_ge (b : Int → Int) : ∀ (Q : List Int) (m : Int), m ≤ Q.foldl (fun m q => max m (b q)) m ∧ ∀ q ∈ Q, b q ≤ Q.foldl (fun m q => max m (b q)) m
  | [], m => by simp
  | a :: Q, m => by
    have h := top_ge b Q (max m (b a))
    simp only [List.foldl_cons, List.mem_cons]
    refine ⟨by omega, fun q hq => ?_⟩
    rcases hq with rfl | hq
    · have := h.1; omega
    · exact h.2 q hq
theorem bst_nonneg {inc : Int → Int} (hi : ∀ k, 0 ≤ inc k) (xs : List Int) : ∀ (i : Nat) (q : Int), 0 ≤ bst inc xs i q
  | 0, _ => by simp [bst]
  | i + 1, q => by
    rw [bst_succ]; split
    · have := (top_ge (bst inc xs i) (gq xs i) 0).1
      have := hi (ix xs (i * 3))
      simp only [dep, top]; omega
    · exact bst_nonneg hi xs i q
theorem dep_nonneg {inc : Int → Int} (hi : ∀ k, 0 ≤ inc k) (xs : List Int) (i : Nat) : 0 ≤ dep inc xs i := by
  have := (top_ge (bst inc xs i) (gq xs i) 0).1
  have := hi (ix xs (i * 3))
  simp only [dep, top]; omega
theorem bst_le_dep {inc : Int → Int} (hi : ∀ k, 0 ≤ inc k) (xs : List Int) (i : Nat) {q : Int} (h : (gq xs i).contains q = true) : bst inc xs i q ≤ dep inc xs i := by
  have h1 := (top_ge (bst inc xs i) (gq xs i) 0).2 q (by simpa using h)
  have := hi (ix xs (i * 3))
  simp only [dep, top]; omega
theorem bst_le {inc : Int → Int} (hi : ∀ k, inc k ≤ 1) (xs : List Int) (i : Nat) : (∀ q, bst inc xs i q ≤ i) ∧ top (bst inc xs i) (gq xs i) ≤ i ∧ dep inc xs i ≤ i + 1 := by
    have h0 : ∀ i, (∀ q, bst inc xs i q ≤ i) → ∀ (Q : List Int) (m : Int), m ≤ i → Q.foldl (fun m q => max m (bst inc xs i q)) m ≤ i := by
      intro i h Q
      induction Q with
      | nil => intro m hm; exact hm
      | cons a Q ih => intro m hm; exact ih _ (by have := h a; show max m (bst inc xs i a) ≤ i; omega)
    have h1 : ∀ i, ∀ q, bst inc xs i q ≤ i := by
      intro i
      induction i with
      | zero => intro q; simp [bst]
      | succ i ih =>
        intro q
        rw [bst_succ]; split
        · have := h0 i ih (gq xs i) 0 (by omega)
          have := hi (ix xs (i * 3))
          simp only [dep, top]; omega
        · have := ih q; omega
    have h2 := h0 i (h1 i) (gq xs i) 0 (by omega)
    have := hi (ix xs (i * 3))
    refine ⟨h1 i, h2, ?_⟩
    simp only [dep, top]; omega
/-- Both ways of reckoning agree. -/
theorem mxC_eq {inc : Int → Int} (hi : ∀ k, 0 ≤ inc k) (xs : List Int) {Q : List Int} (hQ : Q = [] ∨ (∃ a b, Q = [a, b]) ∨ ∃ a, Q = [a]) : ∀ j, mxC inc xs Q j = top (bst inc xs j) Q
  | 0 => by rcases hQ with rfl | ⟨a, b, rfl⟩ | ⟨a, rfl⟩ <;> simp [mxC, top, bst]
  | j + 1 => by
    have ih := mxC_eq hi xs hQ j
    have hb := bst_nonneg hi xs j
    have hd := dep_nonneg hi xs j
    have hl := fun q => bst_le_dep hi xs j (q := q)
    rw [mxC, ih]
    rcases hQ with rfl | ⟨a, b, rfl⟩ | ⟨a, rfl⟩
    · simp [common, top]
    · simp only [common, List.any_cons, List.any_nil, Bool.or_false, top, List.foldl_cons, List.foldl_nil, bst_succ]
      have h1 := hl a; have h2 := hl b; have h3 := hb a; have h4 := hb b
      cases ha : (gq xs j).contains a <;> cases hb' : (gq xs j).contains b <;> simp only [ha, hb', Bool.or_true, Bool.or_false, Bool.true_or, Bool.false_eq_true, if_true, if_false, true_implies] at * <;> omega
    · simp only [common, List.any_cons, List.any_nil, Bool.or_false, top, List.foldl_cons, List.foldl_nil, bst_succ]
      have h1 := hl a; have h3 := hb a
      cases ha : (gq xs j).contains a <;> simp only [ha, Bool.false_eq_true, if_true, if_false, true_implies] at * <;> omega
/-- The greatest depth of the first k gates. -/
def mxD (inc : Int → Int) (xs : List Int) : Nat → Int
  | 0 => 0
  | k + 1 => max (mxD inc xs k) (dep inc xs k)
theorem mxD_range {inc : Int → Int} (hi : ∀ k, 0 ≤ inc k ∧ inc k ≤ 1) (xs : List Int) : ∀ k, 0 ≤ mxD inc xs k ∧ mxD inc xs k ≤ k
  | 0 => by simp [mxD]
  | k + 1 => by
    have := mxD_range hi xs k
    have := (bst_le (fun k => (hi k).2) xs k).2.2
    have := dep_nonneg (fun k => (hi k).1) xs k
    simp only [mxD]; omega
/-- The depths at the first five qubits. -/
def bstL (inc : Int → Int) (xs : List Int) (i : Nat) : List Int := (List.range 5).map fun q : Nat => bst inc xs i q
@[simp] theorem bstL_length (inc : Int → Int) (xs : List Int) (i : Nat) : (bstL inc xs i).length = 5 := by simp [bstL]
theorem ix_bstL {inc : Int → Int} {xs : List Int} {i : Nat} {q : Int} (h0 : 0 ≤ q) (h5 : q < 5) : ix (bstL inc xs i) q.toNat = bst inc xs i q := by
  have h : q.toNat < 5 := by omega
  have e : ((q.toNat : Nat) : Int) = q := by omega
  simp [ix, bstL, List.getD, h, e]
/-- The list with the value d at some places. -/
def putQ (l : List Int) (d : Int) : List Int → List Int
  | [] => l
  | q :: Q => putQ (l.set q.toNat d) d Q
theorem putQ_append (d : Int) : ∀ (Q R : List Int) (l : List Int), putQ l d (Q ++ R) = putQ (putQ l d Q) d R
  | [], _, _ => rfl
  | _ :: Q, R, l => by simp only [List.cons_append, putQ]; exact putQ_append d Q R _
@[simp] theorem putQ_length (d : Int) : ∀ (Q l : List Int), (putQ l d Q).length = l.length
  | [], _ => rfl
  | _ :: Q, l => by rw [putQ, putQ_length d Q]; simp
theorem putQ_bst {inc : Int → Int} {xs : List Int} {i : Nat} (hQ : ∀ q ∈ gq xs i, 0 ≤ q ∧ q < 5) : putQ (bstL inc xs i) (dep inc xs i) (gq xs i) = bstL inc xs (i + 1) := by
  have key : ∀ (Q : List Int) (l : List Int), (∀ q ∈ Q, 0 ≤ q ∧ q < 5) → ∀ j : Nat, j < l.length → ix (putQ l (dep inc xs i) Q) j = if Q.contains (j : Int) then dep inc xs i else ix l j := by
    intro Q
    induction Q with
    | nil => intro l _ j _; simp [putQ]
    | cons q Q ih =>
      intro l h j hj
      have hq := h q (by simp)
      rw [putQ, ih _ (fun r hr => h r (by simp [hr])) j (by simpa using hj), ix_set hj]
      simp only [List.contains_cons]
      by_cases e : q.toNat = j
      · have e2 : (j : Int) = q := by omega
        simp [e, e2]
      · have e2 : ¬ (j : Int) = q := by omega
        simp [e, e2]
  refine list_ext_ix (by simp) fun j hj => ?_
  have hj5 : j < 5 := by simpa using hj
  rw [key _ _ hQ j (by simpa using hj5)]
  have e1 := ix_bstL (inc := inc) (xs := xs) (i := i) (q := (j : Int)) (by omega) (by omega)
  have e2 := ix_bstL (inc := inc) (xs := xs) (i := i + 1) (q := (j : Int)) (by omega) (by omega)
  simp only [Int.toNat_natCast] at e1 e2
  rw [e1, e2, bst_succ]
theorem gate_qs {N k a b : Int} (hN : N ≤ 5) (h : gateOk N k a b = true) : ∀ q ∈ qs k a b, 0 ≤ q ∧ q < 5 := by
  intro q hq
  have h1 := gateOk_split h
  unfold qs at hq
  split at hq
  · simp at hq
  · split at hq
    · simp at hq; omega
    · simp at hq; omega
theorem gate_gq {N : Int} {xs : List Int} {n i : Nat} (h : circOk N xs n = true) (hi : i < n) : ∀ q ∈ gq xs i, 0 ≤ q ∧ q < 5 := gate_qs (circOk_N h).2 (circOk_gate h hi)
theorem top_take (b : Int → Int) (Q : List Int) {k : Nat} (hk : k < Q.length) : top b (Q.take (k + 1)) = max (top b (Q.take k)) (b (ix Q k)) := by
  have e : Q.take (k + 1) = Q.take k ++ [ix Q k] := by rw [List.take_add_one]; simp [ix, List.getD, hk]
  rw [e, top, top, List.foldl_append]; rfl
theorem putQ_take (l : List Int) (d : Int) (Q : List Int) {k : Nat} (hk : k < Q.length) : putQ l d (Q.take (k + 1)) = (putQ l d (Q.take k)).set (ix Q k).toNat d := by
  have e : Q.take (k + 1) = Q.take k ++ [ix Q k] := by rw [List.take_add_one]; simp [ix, List.getD, hk]
  rw [e, putQ_append]; rfl
def incT (k : Int) : Int := if k = 7 ∨ k = 8 then 1 else 0
theorem incT_range (k : Int) : 0 ≤ incT k ∧ incT k ≤ 1 := by unfold incT; split <;> omega
def incL (k : Int) : Int := if k = 12 then 0 else 1
theorem incL_range (k : Int) : 0 ≤ incL k ∧ incL k ≤ 1 := by unfold incL; split <;> omega

end Go.Proofs.Ytekikmdjldincaa
