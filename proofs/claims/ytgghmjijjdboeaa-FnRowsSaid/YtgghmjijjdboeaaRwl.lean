/- Plain laws: the recorded additions yield the reduced rows; the swaps yield the permutation. -/
import Derived.Test.YtgghmjijjdboeaaEl
import Derived.Test.YtgghmjijjdboeaaPm
set_option linter.unusedSimpArgs false
set_option linter.unusedVariables false
namespace Go.Proofs.Ytgghmjijjdboeaa
open Go Go.RowKit

/-- The k-th gate. -/
def gx (gs : List (Nat × Nat)) (k : Nat) : Nat × Nat := gs.getD k (0, 0)
theorem gx_mem {gs : List (Nat × Nat)} {k : Nat} (h : k < gs.length) : gx gs k ∈ gs := by
  have : gx gs k = gs[k] := by simp [gx, List.getD, h]
  rw [this]; exact List.getElem_mem h
theorem take_gx {gs : List (Nat × Nat)} {k : Nat} (h : k < gs.length) : gs.take (k + 1) = gs.take k ++ [gx gs k] := by
  rw [List.take_succ_eq_append_getElem h]; simp [gx, List.getD, h]
theorem ix_cons3 (a b c : Int) (l : List Int) (i : Nat) : ix (a :: b :: c :: l) (i + 3) = ix l i := by simp [ix, List.getD]
theorem flCX_ix : ∀ {gs : List (Nat × Nat)} {k : Nat}, k < gs.length → ix (flCX gs) (k * 3) = 9 ∧ ix (flCX gs) (k * 3 + 1) = ((gx gs k).1 : Nat) ∧ ix (flCX gs) (k * 3 + 2) = ((gx gs k).2 : Nat)
  | [], _, h => by simp at h
  | (a, b) :: l, 0, _ => ⟨rfl, rfl, rfl⟩
  | (a, b) :: l, k + 1, h => by
    have ih := flCX_ix (gs := l) (k := k) (by simpa using h)
    have e : gx ((a, b) :: l) (k + 1) = gx l k := by simp [gx, List.getD]
    rw [e, flCX, show (k + 1) * 3 = k * 3 + 3 by omega, show k * 3 + 3 + 1 = (k * 3 + 1) + 3 by omega, show k * 3 + 3 + 2 = (k * 3 + 2) + 3 by omega, ix_cons3, ix_cons3, ix_cons3]
    exact ih
theorem flSW_ix : ∀ {gs : List (Nat × Nat)} {k : Nat}, k < gs.length → ix (flSW gs) (k * 3) = 11 ∧ ix (flSW gs) (k * 3 + 1) = ((gx gs k).1 : Nat) ∧ ix (flSW gs) (k * 3 + 2) = ((gx gs k).2 : Nat)
  | [], _, h => by simp at h
  | (a, b) :: l, 0, _ => ⟨rfl, rfl, rfl⟩
  | (a, b) :: l, k + 1, h => by
    have ih := flSW_ix (gs := l) (k := k) (by simpa using h)
    have e : gx ((a, b) :: l) (k + 1) = gx l k := by simp [gx, List.getD]
    rw [e, flSW, show (k + 1) * 3 = k * 3 + 3 by omega, show k * 3 + 3 + 1 = (k * 3 + 1) + 3 by omega, show k * 3 + 3 + 2 = (k * 3 + 2) + 3 by omega, ix_cons3, ix_cons3, ix_cons3]
    exact ih
/-! ### Additions -/
/-- The rows behind some additions. -/
def rpR (x : List Int) : List (Nat × Nat) → List Int
  | [] => x
  | (t, u) :: l => rpR (x.set t (bits .xor .i64 (ix x t) (ix x u))) l
theorem rpR_snoc (t u : Nat) : ∀ (l : List (Nat × Nat)) (x : List Int), rpR x (l ++ [(t, u)]) = (rpR x l).set t (bits .xor .i64 (ix (rpR x l) t) (ix (rpR x l) u))
  | [], x => rfl
  | (a, b) :: l, x => by simp only [List.cons_append, rpR]; exact rpR_snoc t u l _
@[simp] theorem rpR_length : ∀ (l : List (Nat × Nat)) (x : List Int), (rpR x l).length = x.length
  | [], _ => rfl
  | (a, b) :: l, x => by rw [rpR, rpR_length l]; simp
structure Rp (n : Nat) (xs : List Int) (s : List Int × List (Nat × Nat)) : Prop where
  run : s.1 = rpR xs s.2
  ok : ∀ g ∈ s.2, g.1 < n ∧ g.2 < n ∧ g.1 ≠ g.2
theorem Rp.add {n : Nat} {xs : List Int} {s : List Int × List (Nat × Nat)} (h : Rp n xs s) {t u : Nat} (ht : t < n) (hu : u < n) (hne : t ≠ u) : Rp n xs (addR s t u) := by
  refine ⟨?_, fun g hg => ?_⟩
  · simp only [addR]; rw [rpR_snoc, ← h.run]
  · simp only [addR, List.mem_append, List.mem_singleton] at hg
    rcases hg with hg | rfl
    · exact h.ok g hg
    · exact ⟨ht, hu, hne⟩
theorem Rp.clr {n : Nat} {xs : List Int} {s : List Int × List (Nat × Nat)} {j r : Nat} (h : Rp n xs s) (hr : r < n) : ∀ k, k ≤ n → Rp n xs (clrR j r k s)
  | 0, _ => h
  | k + 1, hk => by
    have ih := h.clr (j := j) hr k (by omega)
    simp only [clrR]
    split
    · rename_i hc; exact ih.add (by omega) hr hc.1
    · exact ih
theorem scanR_range (p : Nat → Bool) : ∀ m i, i ≤ scanR p i m ∧ scanR p i m ≤ i + m
  | 0, i => by simp [scanR]
  | m + 1, i => by
    have := scanR_range p m (i + 1)
    rw [scanR]; split <;> omega
theorem Rp.el {n : Nat} {xs : List Int} : ∀ j, Rp n xs (elN n xs j).1 ∧ (elN n xs j).2 ≤ n
  | 0 => ⟨⟨rfl, fun g hg => by cases hg⟩, Nat.zero_le _⟩
  | j + 1 => by
    obtain ⟨ih, h2⟩ := Rp.el (n := n) (xs := xs) j
    have hs := scanR_range (fun i => bitI (ix (elN n xs j).1.1 i) j) (n - (elN n xs j).2) (elN n xs j).2
    simp only [elN, el1]
    split
    · exact ⟨ih, h2⟩
    · rename_i hne
      refine ⟨Rp.clr ?_ (by omega) n (Nat.le_refl _), by dsimp only; omega⟩
      split
      · exact ih
      · rename_i hne2
        exact ih.add (by omega) (by omega) (by omega)
theorem elR_rp {n : Nat} {xs : List Int} (h : rowsOk xs n = true) : elR n xs = rpR xs (elG n xs) ∧ ∀ g ∈ elG n xs, g.1 < n ∧ g.2 < n ∧ g.1 ≠ g.2 := by
  have := (Rp.el (n := n) (xs := xs) 40).1
  rw [elR, elG, if_pos h, if_pos h]
  exact ⟨this.run, this.ok⟩
/-! ### Swaps -/
def rpS (x : List Int) : List (Nat × Nat) → List Int
  | [] => x
  | (t, u) :: l => rpS (swp x t u) l
theorem rpS_snoc (t u : Nat) : ∀ (l : List (Nat × Nat)) (x : List Int), rpS x (l ++ [(t, u)]) = swp (rpS x l) t u
  | [], x => rfl
  | (a, b) :: l, x => by simp only [List.cons_append, rpS]; exact rpS_snoc t u l _
@[simp] theorem rpS_length : ∀ (l : List (Nat × Nat)) (x : List Int), (rpS x l).length = x.length
  | [], _ => rfl
  | (a, b) :: l, x => by rw [rpS, rpS_length l]; simp [swp]
theorem pmS_rp {n : Nat} {xs : List Int} (hx : isPm xs n = true) : ∀ q, q ≤ n → (pmS n xs q).1 = rpS (mks 0 n) (pmS n xs q).2 ∧ ∀ g ∈ (pmS n xs q).2, g.1 < n ∧ g.2 < n
  | 0, _ => ⟨rfl, fun g hg => by cases hg⟩
  | q + 1, hq => by
    obtain ⟨h1, h2⟩ := pmS_rp hx q (by omega)
    have hp := (pm_ok hx q (by omega)).place hx (by omega)
    simp only [pmS]
    split
    · exact ⟨h1, h2⟩
    · refine ⟨by dsimp only; rw [rpS_snoc, ← h1], fun g hg => ?_⟩
      simp only [List.mem_append, List.mem_singleton] at hg
      rcases hg with hg | rfl
      · exact h2 g hg
      · exact ⟨by omega, hp.2.1⟩
theorem pmR_rp {n : Nat} {xs : List Int} (hl : xs.length = n) (h : pmOk xs n = true) : rpS (mks 0 n) (pmR n xs) = xs ∧ ∀ g ∈ pmR n xs, g.1 < n ∧ g.2 < n := by
  have hx : isPm xs n = true := by rw [pmOk, Bool.and_eq_true] at h; exact h.2
  obtain ⟨h1, h2⟩ := pmS_rp hx n (Nat.le_refl _)
  have h3 := pm_ok hx n (Nat.le_refl _)
  rw [pmR, if_pos h]
  refine ⟨?_, h2⟩
  rw [← h1]
  exact list_ext_ix (by rw [h3.len, hl]) fun i hi => h3.done i (by rw [h3.len] at hi; exact hi)

end Go.Proofs.Ytgghmjijjdboeaa
