/- Plain laws: what is done is decided by the gates with two qubits. -/
import Derived.Test.YtekikmdjldincaaLsh
import Derived.Test.YtekikmdjldincaaProg
set_option linter.unusedSimpArgs false
set_option linter.unusedVariables false
namespace Go.Proofs.Ytekikmdjldincaa
open Go Go.RowKit

theorem adv_fst (g : List Bool → Nat → Bool) (n : Nat) : ∀ f ds L M, (adv g n f ds L).1 = (adv g n f ds M).1
  | 0, ds, L, M => rfl
  | f + 1, ds, L, M => by
    rw [adv, adv]
    split
    · rfl
    · exact adv_fst g n f _ _ _
/-- What holds of a done list, and is kept by each step, holds at the end. -/
theorem advS_keep {es xs ps : List Int} {m n : Nat} {P : List Bool → Prop} (hP : ∀ ds i, ds.length = n → i < n → P ds → goB es m xs ps ds i = true → P (ds.set i true)) :
    ∀ f ds L, und ds = f → ds.length = n → P ds → P (advS (goB es m xs ps) n ds L).1 ∧ (advS (goB es m xs ps) n ds L).1.length = n ∧ ∀ j, j < n → goB es m xs ps (advS (goB es m xs ps) n ds L).1 j = false := by
  intro f
  induction f with
  | zero =>
    intro ds L hu hl hp
    have hb : ∀ j, j < n → goB es m xs ps ds j = false := by
      intro j hj
      cases hg : goB es m xs ps ds j with
      | false => rfl
      | true => have := und_set (i := j) (by omega) (goB_open hg); omega
    rw [advS_stop hb]; exact ⟨hp, hl, hb⟩
  | succ f ih =>
    intro ds L hu hl hp
    by_cases h : ∀ j, j < n → goB es m xs ps ds j = false
    · rw [advS_stop h]; exact ⟨hp, hl, h⟩
    · obtain ⟨i, hi, hg, hlow⟩ : ∃ i, i < n ∧ goB es m xs ps ds i = true ∧ ∀ j, j < i → goB es m xs ps ds j = false := by
        have hex : ∃ i, i < n ∧ goB es m xs ps ds i = true := by
          refine Decidable.byContradiction fun hne => h fun j hj => ?_
          cases hg : goB es m xs ps ds j with
          | false => rfl
          | true => exact absurd ⟨j, hj, hg⟩ hne
        have key : ∀ k, (∃ i, i < k ∧ i < n ∧ goB es m xs ps ds i = true) → ∃ i, i < n ∧ goB es m xs ps ds i = true ∧ ∀ j, j < i → goB es m xs ps ds j = false := by
          intro k
          induction k with
          | zero => rintro ⟨i, hi, _⟩; omega
          | succ k ihk =>
            rintro ⟨i, hi, hin, hg⟩
            by_cases h2 : ∃ i, i < k ∧ i < n ∧ goB es m xs ps ds i = true
            · exact ihk h2
            · refine ⟨i, hin, hg, fun j hj => ?_⟩
              cases hgj : goB es m xs ps ds j with
              | false => rfl
              | true => exact absurd ⟨j, by omega, by omega, hgj⟩ h2
        obtain ⟨i, hi, hg⟩ := hex
        exact key (i + 1) ⟨i, by omega, hi, hg⟩
      have ho := goB_open hg
      have hu2 := und_set (i := i) (by omega) ho
      rw [advS_step hl hi hg ho hlow]
      exact ih _ _ (by omega) (by rw [List.length_set]; exact hl) (hP _ _ hl hi hp hg)
/-- No gate is done before those that it must wait for. -/
def Dn (xs : List Int) (ds : List Bool) : Prop := ∀ i, bx ds i = true → ∀ j, j < i → common (gq xs j) (gq xs i) = true → bx ds j = true
theorem Dn.step {es xs ps : List Int} {m n i : Nat} {ds : List Bool} (hl : ds.length = n) (hi : i < n) (h : Dn xs ds) (hg : goB es m xs ps ds i = true) : Dn xs (ds.set i true) := by
  intro k hk j hj hc
  rw [bx_set (by omega)] at hk ⊢
  by_cases e : i = k
  · subst e
    unfold goB rdy at hg
    simp only [Bool.and_eq_true, Bool.not_eq_true'] at hg
    cases hb : bx ds j with
    | true => rfl
    | false =>
      have := hg.1.2
      rw [anyI_true hj (by rw [hb, hc]; rfl)] at this; cases this
  · rw [show decide (i = k) = false from decide_eq_false e, Bool.or_false] at hk
    rw [h k hk j hj hc]; rfl
theorem Dn.start (xs : List Int) (n : Nat) : Dn xs (List.replicate n false) := by
  intro i hi
  have : bx (List.replicate n false) i = false := by
    simp only [bx, List.getD, List.getElem?_replicate]; split <;> rfl
  rw [this] at hi; cases hi
/-- Nothing with one qubit is left that could be done. -/
def Full (xs : List Int) (n : Nat) (ds : List Bool) : Prop := ∀ i, i < n → isTwoI (ix xs (i * 3)) = false → bx ds i = false → ∃ j, j < i ∧ bx ds j = false ∧ common (gq xs j) (gq xs i) = true
theorem Full.of {es xs ps : List Int} {m n : Nat} {ds : List Bool} (h : ∀ j, j < n → goB es m xs ps ds j = false) : Full xs n ds := by
  intro i hi h1 hb
  have hg := h i hi
  unfold goB nearG rdy at hg
  rw [h1, hb] at hg
  simp only [Bool.not_false, Bool.true_or, Bool.and_true, Bool.true_and, Bool.not_eq_false'] at hg
  obtain ⟨j, hj, he⟩ := anyI_iff.1 hg
  rw [Bool.and_eq_true, Bool.not_eq_true'] at he
  exact ⟨j, hj, he.1, he.2⟩
theorem done_eq {xs : List Int} {n : Nat} {ds es : List Bool} (hd : Dn xs ds) (he : Dn xs es) (fd : Full xs n ds) (fe : Full xs n es) (h2 : ∀ i, i < n → isTwoI (ix xs (i * 3)) = true → bx ds i = bx es i) : ∀ i, i < n → bx ds i = bx es i := by
  have key : ∀ i, (∀ j, j < i → j < n → bx ds j = bx es j) → i < n → bx ds i = bx es i := by
    intro i ih hi
    cases ht : isTwoI (ix xs (i * 3)) with
    | true => exact h2 i hi ht
    | false =>
      cases hb : bx ds i with
      | true =>
        cases hc : bx es i with
        | true => rfl
        | false =>
          obtain ⟨j, hj, hf, hcm⟩ := fe i hi ht hc
          have := hd i hb j hj hcm
          rw [ih j hj (by omega), hf] at this; cases this
      | false =>
        cases hc : bx es i with
        | false => rfl
        | true =>
          obtain ⟨j, hj, hf, hcm⟩ := fd i hi ht hb
          have := he i hc j hj hcm
          rw [← ih j hj (by omega), hf] at this; cases this
  intro i
  exact Nat.strongRecOn (motive := fun i => i < n → bx ds i = bx es i) i fun i ih hi => key i (fun j hj hjn => ih j hj hjn) hi
/-- The bits of the gates with two qubits. -/
def tcD (xs : List Int) (ds : List Bool) : Nat → Nat
  | 0 => 0
  | k + 1 => if isTwoI (ix xs (k * 3)) then tcD xs ds k * 2 + (if bx ds k then 1 else 0) else tcD xs ds k
theorem tcD_lt (xs : List Int) (ds : List Bool) : ∀ k, tcD xs ds k < 2 ^ cnt2 xs k
  | 0 => by simp [tcD, cnt2]
  | k + 1 => by
    have ih := tcD_lt xs ds k
    rw [tcD, cnt2]
    split
    · rw [Nat.pow_succ]; split <;> omega
    · exact ih
theorem tcD_inj {xs : List Int} {ds es : List Bool} : ∀ k, tcD xs ds k = tcD xs es k → ∀ i, i < k → isTwoI (ix xs (i * 3)) = true → bx ds i = bx es i
  | 0, _, i, hi, _ => by omega
  | k + 1, h, i, hi, ht => by
    rw [tcD, tcD] at h
    by_cases e : i = k
    · subst e
      rw [if_pos ht, if_pos ht] at h
      cases h1 : bx ds i <;> cases h2 : bx es i <;> simp [h1, h2] at h ⊢ <;> omega
    · refine tcD_inj k ?_ i (by omega) ht
      split at h
      · split at h <;> split at h <;> omega
      · exact h

end Go.Proofs.Ytekikmdjldincaa
