/- Plain laws: rows of bits, their rank by two ways, and additions of rows. -/
import Derived.Test.YteehfidjofcfmaaFind
set_option linter.unusedSimpArgs false
set_option linter.unusedVariables false
namespace Go.Proofs.Yteehfidjofcfmaa
open Go Go.RowKit

/-- Numbers without a sign, as numbers. -/
def nl (r : List Nat) : List Int := r.map fun x : Nat => (x : Int)
def nx (r : List Nat) (i : Nat) : Nat := r.getD i 0
@[simp] theorem nl_length (r : List Nat) : (nl r).length = r.length := by simp [nl]
theorem ix_nl (r : List Nat) (i : Nat) : ix (nl r) i = (nx r i : Nat) := by
  simp only [ix, nl, nx, List.getD, List.getElem?_map]
  cases r[i]? <;> rfl
theorem nl_set (r : List Nat) (i x : Nat) : (nl r).set i (x : Int) = nl (r.set i x) := by simp [nl, List.map_set]
theorem nx_set {r : List Nat} {i k x : Nat} (h : k < r.length) : nx (r.set i x) k = if i = k then x else nx r k := by
  simp only [nx, List.getD, List.getElem?_set]
  by_cases e : i = k
  · subst e; simp [h]
  · simp [e]
theorem nx_ge {r : List Nat} {i : Nat} (h : r.length ≤ i) : nx r i = 0 := by simp [nx, List.getD, List.getElem?_eq_none h]
theorem list_ext_nx {r s : List Nat} (hl : r.length = s.length) (h : ∀ i, i < r.length → nx r i = nx s i) : r = s := by
  apply List.ext_getElem hl
  intro i h1 h2
  have := h i h1
  simpa [nx, List.getD, h1, h2] using this
theorem nl_inj {r s : List Nat} (h : nl r = nl s) : r = s := by
  refine list_ext_nx (by have := congrArg List.length h; simpa using this) fun i hi => ?_
  have h1 := ix_nl r i
  rw [h, ix_nl] at h1; omega
/-- The rows below a bound, as numbers without a sign. -/
def nats (xs : List Int) : List Nat := xs.map Int.toNat
theorem nl_nats {xs : List Int} (h : ∀ x ∈ xs, 0 ≤ x) : nl (nats xs) = xs := by
  induction xs with
  | nil => rfl
  | cons x xs ih =>
    have h1 := h x (by simp)
    have h2 := ih fun y hy => h y (by simp [hy])
    simp only [nl, nats, List.map_cons, List.map_map] at h2 ⊢
    rw [h2, Int.toNat_of_nonneg h1]

/-! ### Selections of rows -/
/-- Bit j of the sum of the selected rows. -/
def parS : List Bool → List Nat → Nat → Bool
  | [], _, _ => false
  | _ :: _, [], _ => false
  | b :: s, x :: r, j => (b && x.testBit j) ^^ parS s r j
/-- No sum of rows is 0 but that of none. -/
def Indep (r : List Nat) : Prop := ∀ s : List Bool, s.length = r.length → (∀ j, parS s r j = false) → ∀ b ∈ s, b = false
theorem parS_append : ∀ (s : List Bool) (r : List Nat) (t : List Bool) (q : List Nat) (j : Nat), s.length = r.length → parS (s ++ t) (r ++ q) j = (parS s r j ^^ parS t q j)
  | [], [], t, q, j, _ => by simp [parS]
  | b :: s, x :: r, t, q, j, h => by
    have := parS_append s r t q j (by simpa using h)
    simp only [List.cons_append, parS, this, Bool.xor_assoc]
/-- The rows, each with p added where a mark says so. -/
theorem parS_addp (p : Nat) (f : Nat → Bool) : ∀ (s : List Bool) (r : List Nat) (j : Nat), s.length = r.length →
    parS s (r.map fun x => if f x then x ^^^ p else x) j = (parS s r j ^^ ((s.zip r).foldr (fun y c => (y.1 && f y.2) ^^ c) false && p.testBit j))
  | [], [], j, _ => by simp [parS]
  | b :: s, x :: r, j, h => by
    have ih := parS_addp p f s r j (by simpa using h)
    simp only [List.map_cons, parS, ih, List.zip_cons_cons, List.foldr_cons]
    cases hf : f x <;> cases b <;> simp [Nat.testBit_xor]
    all_goals (generalize parS s r j = u; generalize List.foldr _ false (s.zip r) = v; generalize p.testBit j = q; generalize x.testBit j = z; cases u <;> cases v <;> cases q <;> cases z <;> rfl)
theorem parS_bit {b : Nat} : ∀ (s : List Bool) (r : List Nat), s.length = r.length → (s.zip r).foldr (fun y c => (y.1 && y.2.testBit b) ^^ c) false = parS s r b
  | [], [], _ => rfl
  | c :: s, x :: r, h => by
    have ih := parS_bit (b := b) s r (by simpa using h)
    simp only [List.zip_cons_cons, List.foldr_cons, parS, ih]
theorem parS_zero : ∀ (s : List Bool) (r : List Nat) (j : Nat), (∀ b ∈ s, b = false) → parS s r j = false
  | [], _, _, _ => rfl
  | _ :: _, [], _, _ => rfl
  | b :: s, x :: r, j, h => by
    have h1 := h b (by simp)
    have h2 := parS_zero s r j fun c hc => h c (by simp [hc])
    simp [parS, h1, h2]
theorem indep_perm_swap {A B : List Nat} {x : Nat} : Indep (A ++ x :: B) ↔ Indep (x :: (A ++ B)) := by
  constructor
  · intro h s hs hz
    obtain ⟨c, t, rfl⟩ : ∃ c t, s = c :: t := by
      cases s with
      | nil => simp at hs
      | cons c t => exact ⟨c, t, rfl⟩
    have hl : t.length = A.length + B.length := by simpa using hs
    have h1 := h (t.take A.length ++ c :: t.drop A.length) (by simp; omega) fun j => by
      have := hz j
      rw [parS_append _ _ _ _ _ (by simp; omega)]
      simp only [parS] at this ⊢
      have e : parS t (A ++ B) j = (parS (t.take A.length) A j ^^ parS (t.drop A.length) B j) := by
        conv => lhs; rw [← List.take_append_drop A.length t]
        exact parS_append _ _ _ _ _ (by simp; omega)
      rw [e] at this
      revert this
      generalize parS (t.take A.length) A j = u; generalize parS (t.drop A.length) B j = v; generalize (c && x.testBit j) = z
      cases u <;> cases v <;> cases z <;> simp
    intro b hb
    apply h1 b
    simp only [List.mem_append, List.mem_cons] at hb ⊢
    rcases hb with rfl | hb
    · exact .inr (.inl rfl)
    · rw [← List.take_append_drop A.length t] at hb
      rcases List.mem_append.1 hb with hb | hb
      · exact .inl hb
      · exact .inr (.inr hb)
  · intro h s hs hz
    have hl : s.length = A.length + (B.length + 1) := by simpa using hs
    obtain ⟨c, t, ht⟩ : ∃ c t, s.drop A.length = c :: t := by
      cases hd : s.drop A.length with
      | nil => have := congrArg List.length hd; simp at this; omega
      | cons c t => exact ⟨c, t, rfl⟩
    have htl : t.length = B.length := by have := congrArg List.length ht; simp at this; omega
    have es : s = s.take A.length ++ c :: t := by rw [← ht, List.take_append_drop]
    have h1 := h (c :: (s.take A.length ++ t)) (by simp; omega) fun j => by
      have := hz j
      rw [es, parS_append _ _ _ _ _ (by simp; omega)] at this
      simp only [parS] at this ⊢
      rw [parS_append _ _ _ _ _ (by simp; omega)]
      revert this
      generalize parS (s.take A.length) A j = u; generalize parS t B j = v; generalize (c && x.testBit j) = z
      cases u <;> cases v <;> cases z <;> simp
    intro b hb
    apply h1 b
    rw [es] at hb
    simp only [List.mem_append, List.mem_cons] at hb ⊢
    rcases hb with hb | rfl | hb
    · exact .inr (.inl hb)
    · exact .inl rfl
    · exact .inr (.inr hb)
/-- The first row may be added to others. -/
theorem indep_add {x : Nat} {f : Nat → Bool} {r : List Nat} : Indep (x :: r) ↔ Indep (x :: r.map fun y => if f y then y ^^^ x else y) := by
  have key : ∀ (c : Bool) (s : List Bool), s.length = r.length → ∀ j, parS (c :: s) (x :: r.map fun y => if f y then y ^^^ x else y) j = parS ((c ^^ (s.zip r).foldr (fun y c => (y.1 && f y.2) ^^ c) false) :: s) (x :: r) j := by
    intro c s hs j
    simp only [parS, parS_addp x f s r j hs]
    generalize parS s r j = u; generalize List.foldr _ false (s.zip r) = v; generalize x.testBit j = q
    cases u <;> cases v <;> cases q <;> cases c <;> rfl
  have fz : ∀ (s : List Bool) (r : List Nat), (∀ b ∈ s, b = false) → (s.zip r).foldr (fun y c => (y.1 && f y.2) ^^ c) false = false := by
    intro s
    induction s with
    | nil => intro r _; rfl
    | cons b s ih =>
      intro r h
      cases r with
      | nil => rfl
      | cons y r => simp only [List.zip_cons_cons, List.foldr_cons]; rw [ih r fun c hc => h c (by simp [hc]), h b (by simp)]; rfl
  constructor
  · intro h s hs hz
    obtain ⟨c, t, rfl⟩ : ∃ c t, s = c :: t := by
      cases s with
      | nil => simp at hs
      | cons c t => exact ⟨c, t, rfl⟩
    have ht : t.length = r.length := by simpa using hs
    have h1 := h ((c ^^ (t.zip r).foldr (fun y c => (y.1 && f y.2) ^^ c) false) :: t) (by simp [ht]) fun j => by rw [← key c t ht j]; exact hz j
    have h2 : ∀ b ∈ t, b = false := fun b hb => h1 b (by simp [hb])
    intro b hb
    rcases List.mem_cons.1 hb with rfl | hb
    · have := h1 _ (List.mem_cons_self ..)
      rw [fz t r h2] at this; simpa using this
    · exact h2 b hb
  · intro h s hs hz
    obtain ⟨c, t, rfl⟩ : ∃ c t, s = c :: t := by
      cases s with
      | nil => simp at hs
      | cons c t => exact ⟨c, t, rfl⟩
    have ht : t.length = r.length := by simpa using hs
    have h1 := h ((c ^^ (t.zip r).foldr (fun y c => (y.1 && f y.2) ^^ c) false) :: t) (by simp [ht]) fun j => by
      rw [key _ t ht j]
      have e : ((c ^^ (t.zip r).foldr (fun y c => (y.1 && f y.2) ^^ c) false) ^^ (t.zip r).foldr (fun y c => (y.1 && f y.2) ^^ c) false) = c := by
        generalize List.foldr _ false (t.zip r) = v; cases c <;> cases v <;> rfl
      rw [e]; exact hz j
    have h2 : ∀ b ∈ t, b = false := fun b hb => h1 b (by simp [hb])
    intro b hb
    rcases List.mem_cons.1 hb with rfl | hb
    · have := h1 _ (List.mem_cons_self ..)
      rw [fz t r h2] at this; simpa using this
    · exact h2 b hb
/-- A row with a bit that no other row has plays no part. -/
theorem indep_private {x b : Nat} {r : List Nat} (hx : x.testBit b = true) (hr : ∀ y ∈ r, y.testBit b = false) : Indep (x :: r) ↔ Indep r := by
  have hpb : ∀ (s : List Bool) (r : List Nat), (∀ y ∈ r, y.testBit b = false) → parS s r b = false := by
    intro s
    induction s with
    | nil => intro r _; rfl
    | cons c s ih =>
      intro r h
      cases r with
      | nil => rfl
      | cons y r => simp only [parS]; rw [ih r fun z hz => h z (by simp [hz]), h y (by simp)]; simp
  constructor
  · intro h s hs hz b' hb'
    exact h (false :: s) (by simp [hs]) (fun j => by simp [parS, hz j]) b' (by simp [hb'])
  · intro h s hs hz
    obtain ⟨c, t, rfl⟩ : ∃ c t, s = c :: t := by
      cases s with
      | nil => simp at hs
      | cons c t => exact ⟨c, t, rfl⟩
    have hc : c = false := by
      have := hz b
      simp only [parS, hx, Bool.and_true] at this
      rw [hpb t r hr] at this; simpa using this
    subst hc
    have h1 := h t (by simpa using hs) fun j => by have := hz j; simpa [parS] using this
    intro b' hb'
    rcases List.mem_cons.1 hb' with rfl | hb'
    · rfl
    · exact h1 b' hb'
theorem indep_nil : Indep [] := fun s hs _ b hb => by
  have : s = [] := by simpa using hs
  subst this; cases hb
/-- Rows that are all 0. -/
theorem indep_zeros {r : List Nat} (h : ∀ x ∈ r, ∀ j, x.testBit j = false) : Indep r ↔ r = [] := by
  constructor
  · intro hi
    cases r with
    | nil => rfl
    | cons x r =>
      have hz : ∀ (s : List Bool) (r : List Nat), (∀ x ∈ r, ∀ j, x.testBit j = false) → ∀ j, parS s r j = false := by
        intro s
        induction s with
        | nil => intro r _ j; rfl
        | cons c s ih =>
          intro r h j
          cases r with
          | nil => rfl
          | cons y r => simp only [parS]; rw [ih r (fun z hz => h z (by simp [hz])) j, h y (by simp) j]; simp
      have := hi (List.replicate (r.length + 1) true) (by simp) (hz _ _ h) true (by simp)
      cases this
  · rintro rfl; exact indep_nil

/-! ### The program's rank -/
def idxB (b : Nat) (l : List Nat) : Nat := l.findIdx (·.testBit b)
def pstep (b : Nat) (l : List Nat) : List Nat := (l.eraseIdx (idxB b l)).map fun r => if r.testBit b then r ^^^ nx l (idxB b l) else r
def hasB (b : Nat) (l : List Nat) : Bool := l.any (·.testBit b)
def rkS (l : List Nat) : Nat → List Nat × Nat
  | 0 => (l, 0)
  | b + 1 => if hasB b (rkS l b).1 then (pstep b (rkS l b).1, (rkS l b).2 + 1) else rkS l b
theorem split_idx {b : Nat} {l : List Nat} (h : hasB b l = true) : ∃ A x B, l = A ++ x :: B ∧ A.length = idxB b l ∧ x = nx l (idxB b l) ∧ x.testBit b = true ∧ l.eraseIdx (idxB b l) = A ++ B := by
  have hlt : idxB b l < l.length := List.findIdx_lt_length_of_exists (by simpa [hasB, List.any_eq_true] using h)
  refine ⟨l.take (idxB b l), l[idxB b l], l.drop (idxB b l + 1), ?_, by simp; omega, by simp [nx, List.getD, hlt], ?_, ?_⟩
  · rw [List.getElem_cons_drop, List.take_append_drop]
  · exact List.findIdx_getElem (w := hlt)
  · exact List.eraseIdx_eq_take_drop_succ ..
theorem pstep_len {b : Nat} {l : List Nat} (h : hasB b l = true) : (pstep b l).length + 1 = l.length := by
  obtain ⟨A, x, B, h1, _, _, _, h2⟩ := split_idx h
  have := congrArg List.length h1
  simp only [pstep, h2, List.length_map, List.length_append, List.length_cons] at this ⊢
  omega
theorem pstep_indep {b : Nat} {l : List Nat} (h : hasB b l = true) : Indep l ↔ Indep (pstep b l) := by
  obtain ⟨A, x, B, h1, _, hx, hb, h2⟩ := split_idx h
  rw [pstep, h2, ← hx]
  conv => lhs; rw [h1]
  rw [indep_perm_swap, indep_add (f := fun y => y.testBit b), indep_private hb]
  intro y hy
  obtain ⟨z, _, rfl⟩ := List.mem_map.1 hy
  cases hz : z.testBit b <;> simp [hz, Nat.testBit_xor, hb]
theorem rkS_len (l : List Nat) : ∀ b, (rkS l b).1.length + (rkS l b).2 = l.length
  | 0 => rfl
  | b + 1 => by
    have ih := rkS_len l b
    simp only [rkS]
    split
    · rename_i h
      have := pstep_len h
      dsimp only; omega
    · exact ih
theorem rkS_indep (l : List Nat) : ∀ b, Indep l ↔ Indep (rkS l b).1
  | 0 => Iff.rfl
  | b + 1 => by
    rw [rkS_indep l b]
    simp only [rkS]
    split
    · rename_i h; exact pstep_indep h
    · exact Iff.rfl
theorem rkS_low (l : List Nat) : ∀ b, ∀ x ∈ (rkS l b).1, ∀ j, j < b → x.testBit j = false
  | 0, _, _, _, h => by omega
  | b + 1, x, hx, j, hj => by
    have ih := rkS_low l b
    simp only [rkS] at hx
    split at hx
    · rename_i h
      obtain ⟨A, p, B, h1, _, hp, hb, h2⟩ := split_idx h
      simp only [pstep, h2, List.mem_map] at hx
      obtain ⟨z, hz, rfl⟩ := hx
      have hzm : z ∈ (rkS l b).1 := by rw [h1]; simp only [List.mem_append, List.mem_cons] at hz ⊢; exact hz.elim .inl fun h => .inr (.inr h)
      have hpm : p ∈ (rkS l b).1 := by rw [h1]; simp
      rw [← hp]
      by_cases e : j = b
      · subst e
        cases hzb : z.testBit j <;> simp [hzb, Nat.testBit_xor, hb]
      · have h3 := ih z hzm j (by omega)
        have h4 := ih p hpm j (by omega)
        split
        · rw [Nat.testBit_xor, h3, h4]; rfl
        · exact h3
    · rename_i h
      by_cases e : j = b
      · subst e
        simp only [hasB, List.any_eq_true, not_exists, not_and, Bool.not_eq_true] at h
        exact h x hx
      · exact ih x hx j (by omega)
theorem rkS_bound (l : List Nat) {k : Nat} (hl : ∀ x ∈ l, x < 2 ^ k) : ∀ b, ∀ x ∈ (rkS l b).1, x < 2 ^ k
  | 0, x, h => hl x h
  | b + 1, x, hx => by
    have ih := rkS_bound l hl b
    simp only [rkS] at hx
    split at hx
    · rename_i h
      obtain ⟨A, p, B, h1, _, hp, hb, h2⟩ := split_idx h
      simp only [pstep, h2, List.mem_map] at hx
      obtain ⟨z, hz, rfl⟩ := hx
      have hzm : z ∈ (rkS l b).1 := by rw [h1]; simp only [List.mem_append, List.mem_cons] at hz ⊢; exact hz.elim .inl fun h => .inr (.inr h)
      have hpm : p ∈ (rkS l b).1 := by rw [h1]; simp
      rw [← hp]
      split
      · exact Nat.xor_lt_two_pow (ih z hzm) (ih p hpm)
      · exact ih z hzm
    · exact ih x hx
/-- The program's rank is whole exactly where the rows are independent. -/
theorem rkS_full {l : List Nat} {k : Nat} (hl : ∀ x ∈ l, x < 2 ^ k) : (rkS l k).2 = l.length ↔ Indep l := by
  rw [rkS_indep l k, indep_zeros]
  · have := rkS_len l k
    rw [← List.length_eq_zero_iff]; omega
  · intro x hx j
    by_cases e : j < k
    · exact rkS_low l k x hx j e
    · exact Nat.testBit_lt_two_pow (Nat.lt_of_lt_of_le (rkS_bound l hl k x hx) (Nat.pow_le_pow_right (by omega) (by omega)))

end Go.Proofs.Yteehfidjofcfmaa
