/- Walks: permutations as swaps. -/
import Derived.Test.YtbepibalnnbmgaaEl
import Derived.Test.YtbepibalnnbmgaaProg
set_option linter.unusedSimpArgs false
set_option linter.unusedVariables false
namespace Go.Proofs.Ytbepibalnnbmgaa
open Go Go.RowKit

def swp (zs : List Int) (a b : Nat) : List Int := (zs.set a (ix zs b)).set b (ix zs a)
@[simp] theorem swp_length (zs : List Int) (a b : Nat) : (swp zs a b).length = zs.length := by simp [swp]
theorem ix_swp {zs : List Int} {a b j : Nat} (ha : a < zs.length) (hb : b < zs.length) (hj : j < zs.length) : ix (swp zs a b) j = if b = j then ix zs a else if a = j then ix zs b else ix zs j := by
  rw [swp, ix_set (by simpa using hj)]
  split
  · rfl
  · rw [ix_set hj]
theorem ix_getElem {zs : List Int} {a : Nat} (ha : a < zs.length) : ix zs a = zs[a] := by simp [ix, List.getD, ha]
theorem swp_perm {zs : List Int} {a b : Nat} (ha : a < zs.length) (hb : b < zs.length) : (swp zs a b).Perm zs := by
  unfold swp
  rw [ix_getElem ha, ix_getElem hb]
  exact List.set_set_perm ha hb
/-- The first i numbers are sorted. -/
def srt (zs : List Int) (i : Nat) : Prop := ∀ p q, p < q → q < i → ix zs p ≤ ix zs q
/-- The first i + 1 numbers are sorted, but for number j, which is not greater than those behind it. -/
structure Ins (zs : List Int) (i j : Nat) : Prop where
  rest : ∀ p q, p < q → q ≤ i → p ≠ j → q ≠ j → ix zs p ≤ ix zs q
  low : ∀ q, j < q → q ≤ i → ix zs j ≤ ix zs q
theorem Ins.start {zs : List Int} {i : Nat} (h : srt zs i) : Ins zs i i :=
  ⟨fun p q h1 h2 h3 h4 => h p q h1 (by omega), fun q h1 h2 => by omega⟩
theorem Ins.swap {zs : List Int} {i j : Nat} (h : Ins zs i j) (hj : 0 < j) (hji : j ≤ i) (hi : i < zs.length) (hlt : ix zs j < ix zs (j - 1)) : Ins (swp zs j (j - 1)) i (j - 1) := by
  have hx : ∀ q, q ≤ i → ix (swp zs j (j - 1)) q = if j - 1 = q then ix zs j else if j = q then ix zs (j - 1) else ix zs q := fun q hq => ix_swp (by omega) (by omega) (by omega)
  refine ⟨fun p q h1 h2 h3 h4 => ?_, fun q h1 h2 => ?_⟩
  · rw [hx p (by omega), hx q h2, if_neg (show ¬ (j - 1 = p) by omega), if_neg (show ¬ (j - 1 = q) by omega)]
    by_cases e1 : j = p
    · rw [if_pos e1, if_neg (show ¬ (j = q) by omega)]
      exact h.rest (j - 1) q (by omega) h2 (by omega) (by omega)
    · rw [if_neg e1]
      by_cases e2 : j = q
      · rw [if_pos e2]; exact h.rest p (j - 1) (by omega) (by omega) (by omega) (by omega)
      · rw [if_neg e2]; exact h.rest p q h1 h2 (by omega) (by omega)
  · rw [hx (j - 1) (by omega), hx q h2, if_pos rfl, if_neg (show ¬ (j - 1 = q) by omega)]
    by_cases e : j = q
    · rw [if_pos e]; omega
    · rw [if_neg e]; exact h.low q (by omega) h2
theorem Ins.done {zs : List Int} {i j : Nat} (h : Ins zs i j) (hji : j ≤ i) (hd : j = 0 ∨ ix zs (j - 1) ≤ ix zs j) : srt zs (i + 1) := by
  intro p q h1 h2
  by_cases e1 : p = j
  · subst e1; exact h.low q h1 (by omega)
  · by_cases e2 : q = j
    · subst e2
      rcases hd with hd | hd
      · omega
      · by_cases e3 : p = q - 1
        · subst e3; exact hd
        · have := h.rest p (q - 1) (by omega) (by omega) (by omega) (by omega); omega
    · exact h.rest p q h1 (by omega) e1 e2
theorem perm_len {xs ys : List Int} (h : xs.Perm ys) : xs.length = ys.length := h.length_eq
/-- All numbers are different, and below the length. -/
def isPm (xs : List Int) (n : Nat) : Bool := !anyI (fun i => hasI xs (ix xs i) i) n && !anyI (fun i => !within (ix xs i) 0 ((n : Int) - 1)) n
theorem hasI_iff {xs : List Int} {x : Int} {k : Nat} : hasI xs x k = true ↔ ∃ i, i < k ∧ ix xs i = x := by
  unfold hasI; rw [anyI_iff]; simp
theorem isPm_iff {xs : List Int} {n : Nat} : isPm xs n = true ↔ (∀ i j, i < j → j < n → ix xs i ≠ ix xs j) ∧ ∀ i, i < n → 0 ≤ ix xs i ∧ ix xs i < n := by
  unfold isPm
  rw [Bool.and_eq_true, Bool.not_eq_true', Bool.not_eq_true', allI_any]
  constructor
  · rintro ⟨h1, h2⟩
    refine ⟨fun i j hij hj e => ?_, fun i hi => by have := within_iff.1 (h2 i hi); omega⟩
    have : anyI (fun i => hasI xs (ix xs i) i) n = true := anyI_true hj (hasI_iff.2 ⟨i, hij, e⟩)
    rw [h1] at this; cases this
  · rintro ⟨h1, h2⟩
    refine ⟨anyI_false fun j hj => ?_, fun i hi => within_iff.2 (by have := h2 i hi; omega)⟩
    cases hb : hasI xs (ix xs j) j with
    | false => rfl
    | true => obtain ⟨i, hi, e⟩ := hasI_iff.1 hb; exact absurd e (h1 i j hi hj)
theorem nodup_ix {xs : List Int} {n : Nat} (hl : xs.length = n) : xs.Nodup ↔ ∀ i j, i < j → j < n → ix xs i ≠ ix xs j := by
  unfold List.Nodup
  rw [List.pairwise_iff_getElem]
  constructor
  · intro h i j hij hj
    have := h i j (by omega) (by omega) hij
    rwa [ix_getElem (by omega), ix_getElem (by omega)]
  · intro h i j h1 h2 hij
    have := h i j hij (by omega)
    rwa [ix_getElem h1, ix_getElem h2] at this
theorem mem_ix {xs : List Int} {x : Int} : x ∈ xs ↔ ∃ i, i < xs.length ∧ ix xs i = x := by
  rw [List.mem_iff_getElem]
  constructor
  · rintro ⟨i, h, e⟩; exact ⟨i, h, by rw [ix_getElem h]; exact e⟩
  · rintro ⟨i, h, e⟩; exact ⟨i, h, by rw [← ix_getElem h]; exact e⟩
/-- The sorted list of a permutation of 0 .. n - 1, and only that one, is 0 .. n - 1. -/
theorem sorted_pm {xs ys : List Int} {n : Nat} (hl : xs.length = n) (hp : ys.Perm xs) (hs : srt ys n) : (∀ i, i < n → ix ys i = i) ↔ isPm xs n = true := by
  have hyl : ys.length = n := by rw [perm_len hp, hl]
  rw [isPm_iff]
  constructor
  · intro h
    have hnd : ys.Nodup := (nodup_ix hyl).2 fun i j hij hj => by rw [h i (by omega), h j hj]; omega
    refine ⟨(nodup_ix hl).1 (hp.nodup_iff.1 hnd), fun i hi => ?_⟩
    have hm : ix xs i ∈ ys := hp.mem_iff.2 (mem_ix.2 ⟨i, by omega, rfl⟩)
    obtain ⟨j, hj, e⟩ := mem_ix.1 hm
    rw [h j (by omega)] at e; omega
  · rintro ⟨h1, h2⟩
    have hnd : ys.Nodup := hp.nodup_iff.2 ((nodup_ix hl).2 h1)
    have hne := (nodup_ix hyl).1 hnd
    have hrng : ∀ i, i < n → 0 ≤ ix ys i ∧ ix ys i < n := by
      intro i hi
      have hm : ix ys i ∈ xs := hp.mem_iff.1 (mem_ix.2 ⟨i, by omega, rfl⟩)
      obtain ⟨j, hj, e⟩ := mem_ix.1 hm
      rw [← e]; exact h2 j (by omega)
    have hst : ∀ i j, i < j → j < n → ix ys i < ix ys j := fun i j hij hj => by
      have a := hs i j hij hj; have b := hne i j hij hj; omega
    have low : ∀ i, i < n → (i : Int) ≤ ix ys i := by
      intro i
      induction i with
      | zero => intro h; have := hrng 0 h; omega
      | succ i ih => intro h; have a := ih (by omega); have b := hst i (i + 1) (by omega) h; omega
    have high : ∀ d i, i + d + 1 = n → ix ys i ≤ i := by
      intro d
      induction d with
      | zero => intro i h; have := hrng i (by omega); omega
      | succ d ih => intro i h; have a := ih (i + 1) (by omega); have b := hst i (i + 1) (by omega) (by omega); omega
    intro i hi
    have a := low i hi; have b := high (n - 1 - i) i (by omega); omega
/-- Swaps as gates. -/
def flSW : List (Nat × Nat) → List Int
  | [] => []
  | (a, b) :: l => 11 :: (a : Int) :: (b : Int) :: flSW l
@[simp] theorem flSW_length : ∀ l : List (Nat × Nat), (flSW l).length = l.length * 3
  | [] => rfl
  | (_, _) :: l => by simp only [flSW, List.length_cons, flSW_length l]; omega
theorem flSW_append : ∀ l m : List (Nat × Nat), flSW (l ++ m) = flSW l ++ flSW m
  | [], _ => rfl
  | (a, b) :: l, m => by simp only [List.cons_append, flSW, flSW_append l m]
theorem ints_flSW (l : List (Nat × Nat)) (a b : Nat) : ints (flSW l) ++ [.int .i64 11, .int .i64 (a : Int), .int .i64 (b : Int)] = ints (flSW (l ++ [(a, b)])) := by
  rw [flSW_append, ints_append]; rfl
/-- The place of to[q]. -/
def plc (xs : List Int) (q : Nat) (now : List Int) : Nat := (findI (fun i => decide (ix now i = ix xs q)) now.length).toNat
def pmS (n : Nat) (xs : List Int) : Nat → List Int × List (Nat × Nat)
  | 0 => (mks 0 n, [])
  | q + 1 => if plc xs q (pmS n xs q).1 = q then pmS n xs q else (swp (pmS n xs q).1 q (plc xs q (pmS n xs q).1), (pmS n xs q).2 ++ [(q, plc xs q (pmS n xs q).1)])
theorem mks_ix {n i : Nat} (h : i < n) : ix (mks 0 n) i = i := by rw [ix_mks h]; omega
theorem perm_has {n : Nat} {now : List Int} (hp : now.Perm (mks 0 n)) {x : Int} (h0 : 0 ≤ x) (h1 : x < n) : ∃ i, i < now.length ∧ ix now i = x := by
  have : x ∈ mks 0 n := mem_ix.2 ⟨x.toNat, by simp; omega, by rw [mks_ix (by omega)]; omega⟩
  exact mem_ix.1 (hp.mem_iff.2 this)
theorem plc_spec {xs now : List Int} {q r : Nat} (hr : r < now.length) (he : ix now r = ix xs q) : plc xs q now < now.length ∧ ix now (plc xs q now) = ix xs q ∧ ∀ i, i < plc xs q now → ix now i ≠ ix xs q := by
  obtain ⟨k, hk, hmin⟩ : ∃ k, (k < now.length ∧ ix now k = ix xs q) ∧ ∀ i, i < k → ix now i ≠ ix xs q := by
    obtain ⟨k, h1, h2⟩ := least_ex (p := fun k => k < now.length ∧ ix now k = ix xs q) ⟨r, hr, he⟩
    exact ⟨k, h1, fun i hi e => by have := h2 i ⟨by omega, e⟩; omega⟩
  have : plc xs q now = k := by
    rw [plc, findI_hit (k := k) (fun i hi => decide_eq_false (hmin i hi)) (decide_eq_true hk.2) hk.1, Int.toNat_natCast]
  rw [this]; exact ⟨hk.1, hk.2, hmin⟩
structure PmOk (n : Nat) (xs : List Int) (q : Nat) (s : List Int × List (Nat × Nat)) : Prop where
  perm : s.1.Perm (mks 0 n)
  done : ∀ p, p < q → ix s.1 p = ix xs p
  few : s.2.length ≤ q
theorem PmOk.len {n : Nat} {xs : List Int} {q : Nat} {s : List Int × List (Nat × Nat)} (h : PmOk n xs q s) : s.1.length = n := by rw [perm_len h.perm]; simp
theorem PmOk.place {n : Nat} {xs : List Int} {q : Nat} {s : List Int × List (Nat × Nat)} (hx : isPm xs n = true) (hq : q < n) (h : PmOk n xs q s) : q ≤ plc xs q s.1 ∧ plc xs q s.1 < n ∧ ix s.1 (plc xs q s.1) = ix xs q ∧ ∀ i, i < plc xs q s.1 → ix s.1 i ≠ ix xs q := by
  have hi := isPm_iff.1 hx
  obtain ⟨r, hr, he⟩ := perm_has h.perm (hi.2 q hq).1 (hi.2 q hq).2
  obtain ⟨h1, h2, h3⟩ := plc_spec hr he
  refine ⟨?_, by rw [h.len] at h1; exact h1, h2, h3⟩
  refine Decidable.byContradiction fun hlt => ?_
  have := h.done (plc xs q s.1) (by omega)
  exact hi.1 (plc xs q s.1) q (by omega) hq (by rw [← this]; exact h2)
theorem pm_ok {n : Nat} {xs : List Int} (hx : isPm xs n = true) : ∀ q, q ≤ n → PmOk n xs q (pmS n xs q)
  | 0, _ => ⟨List.Perm.refl _, fun p h => by omega, Nat.le_refl _⟩
  | q + 1, hq => by
    have ih := pm_ok hx q (by omega)
    have hp := ih.place hx (by omega)
    have hl := ih.len
    simp only [pmS]
    split
    · rename_i e
      refine ⟨ih.perm, fun p h => ?_, by have := ih.few; omega⟩
      by_cases e2 : p = q
      · subst e2; have := hp.2.2.1; rw [e] at this; exact this
      · exact ih.done p (by omega)
    · rename_i e
      refine ⟨(swp_perm (by omega) (by omega)).trans ih.perm, fun p h => ?_, by have := ih.few; simp only [List.length_append, List.length_cons, List.length_nil]; omega⟩
      rw [ix_swp (by omega) (by omega) (by omega), if_neg (by omega)]
      by_cases e2 : q = p
      · subst e2; rw [if_pos rfl]; exact hp.2.2.1
      · rw [if_neg e2]; exact ih.done p (by omega)
def pmOk (xs : List Int) (n : Nat) : Bool := within (n : Int) 1 5 && isPm xs n
def pmR (n : Nat) (xs : List Int) : List (Nat × Nat) := if pmOk xs n then (pmS n xs n).2 else []
theorem pmR_le (n : Nat) (xs : List Int) : (pmR n xs).length ≤ 5 := by
  unfold pmR
  split
  · rename_i h
    simp only [pmOk, Bool.and_eq_true] at h
    have := within_iff.1 h.1
    have := (pm_ok h.2 n (Nat.le_refl _)).few
    omega
  · simp

end Go.Proofs.Ytbepibalnnbmgaa
