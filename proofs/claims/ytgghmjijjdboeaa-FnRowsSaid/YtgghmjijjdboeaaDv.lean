/- Plain laws: distances are symmetric, paths follow edges, one component. -/
import Derived.Test.YtgghmjijjdboeaaComp
import Derived.Test.YtgghmjijjdboeaaSp
import Derived.Test.YtgghmjijjdboeaaDi
set_option linter.unusedSimpArgs false
set_option linter.unusedVariables false
namespace Go.Proofs.Ytgghmjijjdboeaa
open Go Go.RowKit

/-- A node is as far from one end of an edge as from the other, but for one step. -/
theorem dist_tri {xs : List Int} {n N u v : Nat} (hu : u < N) (hv : v < N) (ha : adjN xs n v u = true) : ∀ (d w : Nat), w < N → ix (distL xs n N u) w = d → 0 ≤ ix (distL xs n N v) w ∧ ix (distL xs n N v) w ≤ d + 1 := by
  intro d
  induction d with
  | zero =>
    intro w hw e
    rcases (distL_is (xs := xs) (n := n) hu).par w hw (by omega) with rfl | ⟨p, hp, hA, h1, h2⟩
    · have h3 := (distL_is (xs := xs) (n := n) hv).src
      have h4 := (distL_is (xs := xs) (n := n) hv).rel v hv w hw (by omega) ha
      omega
    · omega
  | succ d ih =>
    intro w hw e
    rcases (distL_is (xs := xs) (n := n) hu).par w hw (by omega) with rfl | ⟨p, hp, hA, h1, h2⟩
    · have := (distL_is (xs := xs) (n := n) hu).src; omega
    · have h3 := ih p hp (by omega)
      have h4 := (distL_is (xs := xs) (n := n) hv).rel p hp w hw h3.1 hA
      omega
theorem dist_back {xs : List Int} {n N a : Nat} (ha : a < N) : ∀ (d v : Nat), v < N → ix (distL xs n N a) v = d → 0 ≤ ix (distL xs n N v) a ∧ ix (distL xs n N v) a ≤ d := by
  intro d
  induction d with
  | zero =>
    intro v hv e
    rcases (distL_is (xs := xs) (n := n) ha).par v hv (by omega) with rfl | ⟨p, hp, hA, h1, h2⟩
    · have := (distL_is (xs := xs) (n := n) ha).src; omega
    · omega
  | succ d ih =>
    intro v hv e
    rcases (distL_is (xs := xs) (n := n) ha).par v hv (by omega) with rfl | ⟨p, hp, hA, h1, h2⟩
    · have := (distL_is (xs := xs) (n := n) ha).src; omega
    · have h3 := ih p hp (by omega)
      have h4 := dist_tri hp hv (by rw [adjN_comm]; exact hA) (ix (distL xs n N p) a).toNat a ha (by omega)
      omega
theorem dist_symm {xs : List Int} {n N a b : Nat} (ha : a < N) (hb : b < N) : ix (distL xs n N a) b = ix (distL xs n N b) a := by
  have l1 := (distL_is (xs := xs) (n := n) ha).low b hb
  have l2 := (distL_is (xs := xs) (n := n) hb).low a ha
  by_cases h : 0 ≤ ix (distL xs n N a) b
  · have h1 := dist_back (xs := xs) (n := n) ha (ix (distL xs n N a) b).toNat b hb (by omega)
    have h2 := dist_back (xs := xs) (n := n) hb (ix (distL xs n N b) a).toNat a ha (by omega)
    omega
  · by_cases h' : 0 ≤ ix (distL xs n N b) a
    · have h2 := dist_back (xs := xs) (n := n) hb (ix (distL xs n N b) a).toNat a ha (by omega)
      omega
    · omega
/-- The next node of a path is a neighbour, one step nearer. -/
theorem nxt_is {M : Nat} {xs : List Int} {n : Nat} {o : List Int} {s : Nat} (hd : IsDist (adjN xs n) M s o) {a : Int} (h0 : 0 ≤ a) (hM : a < M) (hx : 0 < ix o a.toNat) :
    (0 ≤ nxt M xs n o a ∧ nxt M xs n o a < M ∧ ix o (nxt M xs n o a).toNat = ix o a.toNat - 1) ∧ ∃ k, k < (nbL (M : Int) xs n a).length ∧ ix (nbL (M : Int) xs n a) k = nxt M xs n o a := by
  have hne : a ≠ (s : Int) := fun e => by have := hd.src; subst e; rw [Int.toNat_natCast] at hx; omega
  obtain ⟨_, i, hi, hp⟩ := nearer hd h0 hM (by omega) hne
  obtain ⟨m, h1, h2, h3⟩ := least_nat (p := fun i => nxtP M xs n o a i = true) hp
  have hm : m < (nbL (M : Int) xs n a).length := by omega
  have e := nxt_hit (M := M) (xs := xs) (n := n) (o := o) (a := a) (m := m) (fun j hj => by have := h3 j hj; simpa using this) hm h2
  have hg := nb_get hm
  rw [nxtP, decide_eq_true_eq] at h2
  rw [e]
  exact ⟨⟨hg.1, hg.2.1, h2⟩, m, hm, rfl⟩
theorem path_edges {M : Nat} {xs : List Int} {n : Nat} {o : List Int} {s : Nat} (hd : IsDist (adjN xs n) M s o) : ∀ (d : Nat) (a : Int), 0 ≤ a → a < M → ix o a.toNat = d → ∀ i, i < d →
    (0 ≤ ix (pathL M xs n o d a) i ∧ ix (pathL M xs n o d a) i < M) ∧ ∃ k, k < (nbL (M : Int) xs n (ix (pathL M xs n o d a) i)).length ∧ ix (nbL (M : Int) xs n (ix (pathL M xs n o d a) i)) k = ix (pathL M xs n o d a) (i + 1) := by
  intro d
  induction d with
  | zero => intro a _ _ _ i hi; omega
  | succ d ih =>
    intro a h0 hM e i hi
    obtain ⟨⟨h1, h2, h3⟩, h4⟩ := nxt_is hd h0 hM (by omega)
    have hc : ∀ j, ix (pathL M xs n o (d + 1) a) (j + 1) = ix (pathL M xs n o d (nxt M xs n o a)) j := fun j => by rw [pathL]; simp [ix, List.getD]
    cases i with
    | zero =>
      have e0 : ix (pathL M xs n o (d + 1) a) 0 = a := by rw [pathL]; rfl
      rw [e0, hc 0]
      refine ⟨⟨h0, hM⟩, ?_⟩
      have e1 : ix (pathL M xs n o d (nxt M xs n o a)) 0 = nxt M xs n o a := by cases d <;> rfl
      rw [e1]; exact h4
    | succ i =>
      rw [hc i, hc (i + 1)]
      exact ih (nxt M xs n o a) h1 h2 (by omega) i (by omega)
theorem spB_iff {N : Int} {xs : List Int} {n : Nat} {a b : Int} (h : spB N xs n a b = true) : cgOk N xs n = true ∧ (0 ≤ a ∧ a < N) ∧ (0 ≤ b ∧ b < N) ∧ 0 ≤ ix (distL xs n N.toNat b.toNat) a.toNat := by
  simp only [spB, spOk, negA, Bool.and_eq_true, Bool.not_eq_true', decide_eq_false_iff_not] at h
  obtain ⟨⟨⟨h1, h2⟩, h3⟩, h4⟩ := h
  have := within_iff.1 h2; have := within_iff.1 h3
  exact ⟨h1, by omega, by omega, by omega⟩
theorem nbOk_of {N : Int} {xs : List Int} {n : Nat} {a : Int} (h : cgOk N xs n = true) (ha : 0 ≤ a ∧ a < N) : nbOk N xs n a = true := by
  simp only [nbOk, Bool.and_eq_true]; exact ⟨h, within_iff.2 (by omega)⟩
theorem nbR_of {N : Int} {xs : List Int} {n : Nat} {a : Int} (h : cgOk N xs n = true) (ha : 0 ≤ a ∧ a < N) : nbR N xs n a = nbL N xs n a := by rw [nbR, nbOk_of h ha]; rfl
theorem distR_of {N : Int} {xs : List Int} {n : Nat} {a : Int} (h : cgOk N xs n = true) (ha : 0 ≤ a ∧ a < N) : distR N xs n a = distL xs n N.toNat a.toNat := by rw [distR, nbOk_of h ha]; rfl
theorem distL_len {xs : List Int} {n N s : Nat} (hs : s < N) : (distL xs n N s).length = N := (distL_is hs).len
theorem spR_of {N : Int} {xs : List Int} {n : Nat} {a b : Int} (h : spB N xs n a b = true) : spR N xs n a b = pathL N.toNat xs n (distL xs n N.toNat b.toNat) (ix (distL xs n N.toNat b.toNat) a.toNat).toNat a := by
  have h' := spB_iff h
  simp only [spB, Bool.and_eq_true] at h
  rw [spR, if_pos h.1, spL, if_neg (by omega)]
/-- What the law asks of a path. -/
theorem spR_len {N : Int} {xs : List Int} {n : Nat} {a b : Int} (h : spB N xs n a b = true) : ((spR N xs n a b).length : Int) = ix (distL xs n N.toNat a.toNat) b.toNat + 1 := by
  have h' := spB_iff h
  rw [spR_of h, pathL_length, dist_symm (a := a.toNat) (b := b.toNat) (by omega) (by omega)]; omega
theorem spR_edges {N : Int} {xs : List Int} {n : Nat} {a b : Int} (h : spB N xs n a b = true) {i : Nat} (hi : i + 1 < (spR N xs n a b).length) :
    (0 ≤ ix (spR N xs n a b) i ∧ ix (spR N xs n a b) i < N) ∧ ∃ k, k < (nbL N xs n (ix (spR N xs n a b) i)).length ∧ ix (nbL N xs n (ix (spR N xs n a b) i)) k = ix (spR N xs n a b) (i + 1) := by
  have h' := spB_iff h
  rw [spR_of h, pathL_length] at hi
  have e : ((N.toNat : Nat) : Int) = N := by omega
  have := path_edges (distL_is (xs := xs) (n := n) (N := N.toNat) (s := b.toNat) (by omega)) (ix (distL xs n N.toNat b.toNat) a.toNat).toNat a h'.2.1.1 (by omega) (by omega) i (by omega)
  rw [e] at this
  rw [spR_of h]; exact this
/-- A connected graph has one component. -/
theorem diOk_iff {N : Int} {xs : List Int} {n : Nat} (h : diOk N xs n (distL xs n N.toNat) = true) : cgOk N xs n = true ∧ ∀ s, s < N.toNat → ∀ v, v < N.toNat → 0 ≤ ix (distL xs n N.toNat s) v := by
  simp only [diOk, Bool.and_eq_true, Bool.not_eq_true'] at h
  refine ⟨h.1, fun s hs v hv => ?_⟩
  have h2 : negO (distL xs n N.toNat s) N.toNat = false := by
    cases e : negO (distL xs n N.toNat s) N.toNat with
    | false => rfl
    | true => rw [anyI_true (p := fun s => negO (distL xs n N.toNat s) N.toNat) hs e] at h; cases h.2
  by_cases e : 0 ≤ ix (distL xs n N.toNat s) v
  · exact e
  · rw [negO, anyI_true (p := fun v => decide (ix (distL xs n N.toNat s) v < 0)) hv (by simp; omega)] at h2; cases h2
theorem compR_one {N : Int} {xs : List Int} {n : Nat} (h : diOk N xs n (distL xs n N.toNat) = true) : (compR N xs n).length = 1 := by
  obtain ⟨hcg, hall⟩ := diOk_iff h
  have hN := cgOk_N hcg
  rw [compR, if_pos hcg]
  have : ∀ k, 1 ≤ k → k ≤ N.toNat → (compsL xs n N.toNat k).length = 1 := by
    intro k
    induction k with
    | zero => intro h; omega
    | succ k ih =>
      intro _ hk
      by_cases e : k = 0
      · subst e
        have hf : frst xs n N.toNat 0 = true := by
          cases hf : frst xs n N.toNat 0 with
          | true => rfl
          | false => obtain ⟨j, h1, _⟩ := (frst_false (show 0 < N.toNat by omega)).1 hf; omega
        simp [compsL, hf]
      · have hf : frst xs n N.toNat k = false := (frst_false (by omega)).2 ⟨0, by omega, by rw [rch, decide_eq_true_eq]; exact hall 0 (by omega) k (by omega)⟩
        rw [compsL, hf, List.length_append, ih (by omega) (by omega)]; simp
  exact this N.toNat (by omega) (Nat.le_refl _)
theorem mxV_step {o : List Int} {a : Int} (ha : 0 ≤ a) (j : Nat) : mxV o a j = max a (mxV o 0 j) := by
  induction j with
  | zero => rw [mxV, mxV]; omega
  | succ j ih => rw [mxV, mxV, ih]; omega
theorem mxV_nn (o : List Int) : ∀ j, 0 ≤ mxV o 0 j
  | 0 => Int.le_refl _
  | j + 1 => by have := mxV_nn o j; rw [mxV]; omega
theorem mxA_nn (D : Nat → List Int) (n : Nat) : ∀ k, 0 ≤ mxA D n k
  | 0 => Int.le_refl _
  | k + 1 => by rw [mxA, mxV_step (mxA_nn D n k)]; have := mxA_nn D n k; omega
theorem mxA_step (D : Nat → List Int) (n k : Nat) : mxA D n (k + 1) = max (mxA D n k) (mxV (D k) 0 n) := by rw [mxA, mxV_step (mxA_nn D n k)]

end Go.Proofs.Ytgghmjijjdboeaa
