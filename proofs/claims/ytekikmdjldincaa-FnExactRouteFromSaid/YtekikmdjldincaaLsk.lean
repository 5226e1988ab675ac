/- Plain laws: how many steps and swaps a route has. -/
import Derived.Test.YtekikmdjldincaaLsj
import Derived.Test.YtekikmdjldincaaProg
set_option linter.unusedSimpArgs false
set_option linter.unusedVariables false
namespace Go.Proofs.Ytekikmdjldincaa
open Go Go.RowKit

def swC (L : List T3) : Nat := L.countP fun t => t.1 == -1
theorem swC_snoc (L : List T3) (t : T3) : swC (L ++ [t]) = swC L + (if t.1 = -1 then 1 else 0) := by
  unfold swC
  rw [List.countP_append]
  by_cases h : t.1 = -1 <;> simp [h]
theorem adv_sw (g : List Bool → Nat → Bool) (n : Nat) : ∀ f ds L, swC (adv g n f ds L).2 = swC L
  | 0, ds, L => rfl
  | f + 1, ds, L => by
    rw [adv]
    split
    · rfl
    · rename_i h
      rw [adv_sw g n f, swC_snoc, if_neg (by show ¬ findI (g ds) n = -1; omega), Nat.add_zero]
theorem stp_sw (es : List Int) (m : Nat) (xs : List Int) (n : Nat) : ∀ (p : List Nat) (k : RK) (L : List T3), swC (stp es m xs n k L p) = swC L + p.length
  | [], k, L => rfl
  | e :: p, k, L => by
    rw [stp, stp_sw es m xs n p]
    unfold advS
    rw [adv_sw, swC_snoc, if_pos rfl, List.length_cons]; omega
theorem fl3_ix : ∀ (L : List T3) (k : Nat), k < L.length → ∃ t, L[k]? = some t ∧ ix (fl3 L) (k * 3) = t.1
  | [], k, h => by simp at h
  | t :: L, 0, _ => ⟨t, rfl, rfl⟩
  | t :: L, k + 1, h => by
    obtain ⟨u, h1, h2⟩ := fl3_ix L k (by simpa using h)
    refine ⟨u, h1, ?_⟩
    rw [← h2, show (k + 1) * 3 = k * 3 + 3 by omega]
    rfl
theorem swN_fl3 (L : List T3) : ∀ k, k ≤ L.length → swN (fl3 L) k = swC (L.take k)
  | 0, _ => rfl
  | k + 1, h => by
    obtain ⟨t, h1, h2⟩ := fl3_ix L k (by omega)
    rw [swN, swN_fl3 L k (by omega), List.take_add_one, h1, Option.toList_some, swC_snoc, h2]
    split <;> rfl
theorem swN_all (L : List T3) : swN (fl3 L) L.length = swC L := by rw [swN_fl3 L _ (Nat.le_refl _), List.take_length]
theorem first_of {g : Nat → Bool} {n : Nat} (h : ¬ ∀ j, j < n → g j = false) : ∃ i, i < n ∧ g i = true ∧ ∀ j, j < i → g j = false := by
  have hex : ∃ i, i < n ∧ g i = true := by
    refine Decidable.byContradiction fun hne => h fun j hj => ?_
    cases hg : g j with
    | false => rfl
    | true => exact absurd ⟨j, hj, hg⟩ hne
  have key : ∀ k, (∃ i, i < k ∧ i < n ∧ g i = true) → ∃ i, i < n ∧ g i = true ∧ ∀ j, j < i → g j = false := by
    intro k
    induction k with
    | zero => rintro ⟨i, hi, _⟩; omega
    | succ k ihk =>
      rintro ⟨i, hi, hin, hg⟩
      by_cases h2 : ∃ i, i < k ∧ i < n ∧ g i = true
      · exact ihk h2
      · refine ⟨i, hin, hg, fun j hj => ?_⟩
        cases hgj : g j with
        | false => rfl
        | true => exact absurd ⟨j, by omega, by omega, hgj⟩ h2
  obtain ⟨i, hi, hg⟩ := hex
  exact key (i + 1) ⟨i, by omega, hi, hg⟩
theorem advS_len {es xs ps : List Int} {m n : Nat} : ∀ f ds L, und ds = f → ds.length = n → (advS (goB es m xs ps) n ds L).2.length + und (advS (goB es m xs ps) n ds L).1 = L.length + und ds := by
  intro f
  induction f with
  | zero =>
    intro ds L hu hl
    have hb : ∀ j, j < n → goB es m xs ps ds j = false := by
      intro j hj
      cases hg : goB es m xs ps ds j with
      | false => rfl
      | true => have := und_set (i := j) (by omega) (goB_open hg); omega
    rw [advS_stop hb]
  | succ f ih =>
    intro ds L hu hl
    by_cases h : ∀ j, j < n → goB es m xs ps ds j = false
    · rw [advS_stop h]
    · obtain ⟨i, hi, hg, hlow⟩ := first_of h
      have ho := goB_open hg
      have hu2 := und_set (i := i) (by omega) ho
      rw [advS_step hl hi hg ho hlow, ih _ _ (by omega) (by rw [List.length_set]; exact hl), List.length_append]
      simp only [List.length_cons, List.length_nil]; omega
theorem stp_len {N Q : Int} {es xs : List Int} {m n pn : Nat} (hes : edgesOk N es m = true) : ∀ (p : List Nat) (k : RK) (L : List T3), KOk N Q pn n xs k → (∀ e ∈ p, e < m) → (stp es m xs n k L p).length + und (bev (kstep es m xs n) k p).2 = L.length + und k.2 + p.length
  | [], k, L, _, _ => rfl
  | e :: p, k, L, hk, hp => by
    have h1 := stp_len hes p (kstep es m xs n k e) (advS (goB es m xs (swL (ix es (e * 2)) (ix es (e * 2 + 1)) k.1)) n k.2 (L ++ [((-1, ix es (e * 2), ix es (e * 2 + 1)) : T3)])).2 (kstep_ok hes (hp e (.head _)) hk) (fun a ha => hp a (.tail _ ha))
    have h2 := advS_len (es := es) (m := m) (xs := xs) (ps := swL (ix es (e * 2)) (ix es (e * 2 + 1)) k.1) (n := n) _ k.2 (L ++ [((-1, ix es (e * 2), ix es (e * 2 + 1)) : T3)]) rfl hk.dl
    rw [stp]
    have h3 : (bev (kstep es m xs n) k (e :: p)) = bev (kstep es m xs n) (kstep es m xs n k e) p := rfl
    rw [h3, h1]
    have h4 : (kstep es m xs n k e).2 = (advS (goB es m xs (swL (ix es (e * 2)) (ix es (e * 2 + 1)) k.1)) n k.2 (L ++ [((-1, ix es (e * 2), ix es (e * 2 + 1)) : T3)])).1 := adv_same _ _ _
    rw [h4, List.length_cons]
    rw [List.length_append] at h2
    simp only [List.length_cons, List.length_nil] at h2
    omega

end Go.Proofs.Ytekikmdjldincaa
