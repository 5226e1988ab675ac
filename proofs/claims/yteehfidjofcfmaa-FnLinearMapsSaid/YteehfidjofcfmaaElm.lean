/- Plain laws: a linear map is eliminated, inverted, composed. -/
import Derived.Test.YteehfidjofcfmaaSlx
set_option linter.unusedSimpArgs false
set_option linter.unusedVariables false
namespace Go.Proofs.Yteehfidjofcfmaa
open Go Go.RowKit

/-! ### Independence is kept by additions -/
theorem parS_setR {j i y : Nat} : ∀ {s : List Bool} {r : List Nat}, s.length = r.length → i < r.length → parS s (r.set i y) j = (parS s r j ^^ (s.getD i false && (y ^^^ nx r i).testBit j))
  | [], [], _, h => by simp at h
  | b :: s, x :: r, hl, hi => by
    cases i with
    | zero =>
      simp only [List.set_cons_zero, parS, nx, List.getD_cons_zero, Nat.testBit_xor]
      cases b <;> cases y.testBit j <;> cases x.testBit j <;> simp
    | succ i =>
      have ih := parS_setR (j := j) (i := i) (y := y) (s := s) (r := r) (by simpa using hl) (by simpa using hi)
      simp only [List.set_cons_succ, parS, ih, nx, List.getD_cons_succ]
      cases (b && x.testBit j) <;> simp
  | [], _ :: _, hl, _ => by simp at hl
  | _ :: _, [], hl, _ => by simp at hl
theorem parS_setL {j i : Nat} {c : Bool} : ∀ {s : List Bool} {r : List Nat}, s.length = r.length → i < r.length → parS (s.set i c) r j = (parS s r j ^^ ((c ^^ s.getD i false) && (nx r i).testBit j))
  | [], [], _, h => by simp at h
  | b :: s, x :: r, hl, hi => by
    cases i with
    | zero =>
      simp only [List.set_cons_zero, parS, nx, List.getD_cons_zero]
      cases b <;> cases c <;> cases x.testBit j <;> simp
    | succ i =>
      have ih := parS_setL (j := j) (i := i) (c := c) (s := s) (r := r) (by simpa using hl) (by simpa using hi)
      simp only [List.set_cons_succ, parS, ih, nx, List.getD_cons_succ]
      cases (b && x.testBit j) <;> simp
  | [], _ :: _, hl, _ => by simp at hl
  | _ :: _, [], hl, _ => by simp at hl
theorem indep_cx {l : List Nat} {e : Nat × Nat} (h1 : e.1 < l.length) (h2 : e.2 < l.length) (h3 : e.1 ≠ e.2) (h : Indep l) : Indep (cx l e) := by
  intro s hs hz
  rw [cx_length] at hs
  have key : ∀ c ∈ s.set e.1 (s.getD e.1 false ^^ s.getD e.2 false), c = false := by
    refine h _ (by simpa using hs) fun j => ?_
    have h4 := hz j
    rw [cx, parS_setR hs h2] at h4
    rw [parS_setL hs h1]
    refine Eq.trans ?_ h4
    congr 1
    rw [Nat.testBit_xor, Nat.testBit_xor]
    cases s.getD e.1 false <;> cases s.getD e.2 false <;> cases (nx l e.2).testBit j <;> cases (nx l e.1).testBit j <;> rfl
  have h2s : s.getD e.2 false = false := by
    have h5 : (s.set e.1 (s.getD e.1 false ^^ s.getD e.2 false))[e.2]'(by simp; omega) ∈ s.set e.1 (s.getD e.1 false ^^ s.getD e.2 false) := List.getElem_mem _
    have h6 := key _ h5
    rw [List.getElem_set_ne h3] at h6
    rw [List.getD, List.getElem?_eq_getElem (by omega), Option.getD_some]; exact h6
  intro b hb
  obtain ⟨i, hi, rfl⟩ := List.getElem_of_mem hb
  by_cases c : e.1 = i
  · subst c
    have h5 : (s.set e.1 (s.getD e.1 false ^^ s.getD e.2 false))[e.1]'(by simp; omega) ∈ s.set e.1 (s.getD e.1 false ^^ s.getD e.2 false) := List.getElem_mem _
    have h6 := key _ h5
    rw [List.getElem_set_self, h2s, Bool.xor_false, List.getD, List.getElem?_eq_getElem (by omega), Option.getD_some] at h6
    exact h6
  · have h5 : (s.set e.1 (s.getD e.1 false ^^ s.getD e.2 false))[i]'(by simp; omega) ∈ s.set e.1 (s.getD e.1 false ^^ s.getD e.2 false) := List.getElem_mem _
    have h6 := key _ h5
    rw [List.getElem_set_ne c] at h6
    exact h6
theorem indep_cxs {n : Nat} : ∀ (w : List (Nat × Nat)) (l : List Nat), l.length = n → WOk n w → Indep l → Indep (cxs l w)
  | [], l, _, _, h => h
  | e :: w, l, hl, hw, h => by
    have he := hw e (by simp)
    exact indep_cxs w (cx l e) (by simpa using hl) (fun x hx => hw x (by simp [hx])) (indep_cx (by omega) (by omega) he.2.2 h)
theorem cx_lt {k : Nat} {l : List Nat} {e : Nat × Nat} (h : ∀ i, nx l i < 2 ^ k) : ∀ i, nx (cx l e) i < 2 ^ k := by
  intro i
  by_cases hi : i < l.length
  · rw [nx_cx hi]; split
    · exact Nat.xor_lt_two_pow (h i) (h e.1)
    · exact h i
  · rw [nx_ge (by rw [cx_length]; omega)]; exact Nat.two_pow_pos k
theorem cxs_lt {k : Nat} : ∀ (w : List (Nat × Nat)) (l : List Nat), (∀ i, nx l i < 2 ^ k) → ∀ i, nx (cxs l w) i < 2 ^ k
  | [], _, h => h
  | e :: w, l, h => cxs_lt w (cx l e) (cx_lt h)
/-! ### Columns that are ready -/
structure Col (n k : Nat) (l : List Nat) : Prop where
  len : l.length = n
  lt : ∀ i, nx l i < 2 ^ n
  ind : Indep l
  col : ∀ c, c < k → ∀ i, i < n → (nx l i).testBit c = decide (i = c)
theorem clrN_same {n b : Nat} {l : List Nat} (hl : l.length = n) (x : Nat) (h : ∀ i, i < n → i ≠ b → (nx l i).testBit b = false) : ∀ m, clrN b b x l m = l
  | 0 => rfl
  | m + 1 => by
    rw [clrN, clrN_same hl x h m]
    by_cases hm : m < n
    · by_cases e : m = b
      · rw [if_neg (by simp [e])]
      · rw [if_neg (by rw [h m hm e]; simp)]
    · rw [if_neg (by rw [nx_ge (by omega)]; simp)]
theorem swp_same {l : List Nat} {i : Nat} (h : i < l.length) : swp l i i = l := by
  refine list_ext_nx (by simp) fun j hj => ?_
  rw [swp_length] at hj
  rw [nx_swp h hj]
  split
  · subst_vars; rfl
  · rfl
theorem Col.rk {n k : Nat} {l : List Nat} (h : Col n k l) : ∀ b, b ≤ k → b ≤ n → rkR n l b = (l, b)
  | 0, _, _ => rfl
  | b + 1, hb, hbn => by
    have ih := h.rk b (by omega) (by omega)
    have hat : atR b n (rkR n l b) = b := by
      rw [ih]; exact scan_at (Nat.le_refl b) (by omega) (fun k h1 h2 => by omega) (by rw [h.col b (by omega) b (by omega)]; simp)
    rw [rkR_hit hat (by omega), ih, swp_same (by rw [h.len]; omega), clrN_same h.len _ fun i hi hne => by rw [h.col b (by omega) i hi]; simp [hne]]
theorem rkR_grow (n : Nat) (l : List Nat) (b : Nat) : (rkR n l (b + 1)).2 ≤ (rkR n l b).2 + 1 := by
  rw [rkR, rstep]; split <;> simp
theorem rkR_grow' (n : Nat) (l : List Nat) (b : Nat) : ∀ d, (rkR n l (b + d)).2 ≤ (rkR n l b).2 + d
  | 0 => by simp
  | d + 1 => by have h1 := rkR_grow' n l b d; have h2 := rkR_grow n l (b + d); rw [Nat.add_assoc] at h2; omega
theorem Col.piv {n k : Nat} {l : List Nat} (h : Col n k l) (hk : k < n) : ∃ i, k ≤ i ∧ i < n ∧ (nx l i).testBit k = true := by
  refine Classical.byContradiction fun hn => ?_
  have hno : ∀ i, k ≤ i → i < n → (nx l i).testBit k = false := fun i h1 h2 => by
    cases hb : (nx l i).testBit k with
    | false => rfl
    | true => exact absurd ⟨i, h1, h2, hb⟩ hn
  have e := h.rk k (Nat.le_refl k) (by omega)
  have hat : atR k n (rkR n l k) = n := by
    rw [e]; exact scan_none (by omega) hno
  have e2 := rkR_miss hat
  have hg := rkR_grow' n l (k + 1) (n - (k + 1))
  rw [show k + 1 + (n - (k + 1)) = n by omega, e2, e] at hg
  have hf := (rkR_full h.len (k := n) fun i _ => h.lt i).2 h.ind
  rw [hf] at hg
  simp only at hg; omega
theorem Col.id {n : Nat} {l : List Nat} (h : Col n n l) : l = idL n := by
  refine list_ext_nx (by rw [h.len]; simp) fun i hi => ?_
  rw [h.len] at hi
  rw [nx_idL hi]
  refine Nat.eq_of_testBit_eq fun c => ?_
  rw [Nat.testBit_two_pow]
  by_cases hc : c < n
  · rw [h.col c hc i hi]
  · rw [Nat.testBit_lt_two_pow (Nat.lt_of_lt_of_le (h.lt i) (Nat.pow_le_pow_right (by omega) (by omega)))]
    simp; omega
theorem Col.cx {n k a b : Nat} {l : List Nat} (h : Col n k l) (ha : k ≤ a) (han : a < n) (hb : b < n) (hab : a ≠ b) : Col n k (cx l (a, b)) := by
  refine ⟨by simpa using h.len, cx_lt h.lt, indep_cx (by rw [h.len]; exact han) (by rw [h.len]; exact hb) hab h.ind, fun c hc i hi => ?_⟩
  rw [nx_cx (by rw [h.len]; exact hi)]
  split
  · rw [Nat.testBit_xor, h.col c hc i hi, h.col c hc a han, show decide (a = c) = false by simp; omega, Bool.xor_false]
  · exact h.col c hc i hi
/-! ### Elimination -/
def addE (s : List Nat × List (Nat × Nat)) (e : Nat × Nat) : List Nat × List (Nat × Nat) := (cx s.1 e, s.2 ++ [e])
def elS (k : Nat) (s : List Nat × List (Nat × Nat)) : Nat → List Nat × List (Nat × Nat)
  | 0 => s
  | j + 1 => if (k < j ∧ (nx (elS k s j).1 k).testBit k = false) ∧ (nx (elS k s j).1 j).testBit k = true then addE (elS k s j) (j, k) else elS k s j
def elC (k : Nat) (s : List Nat × List (Nat × Nat)) : Nat → List Nat × List (Nat × Nat)
  | 0 => s
  | j + 1 => if j ≠ k ∧ (nx (elC k s j).1 j).testBit k = true then addE (elC k s j) (k, j) else elC k s j
def elQ (n : Nat) (m : List Nat) : Nat → List Nat × List (Nat × Nat)
  | 0 => (m, [])
  | k + 1 => elC k (elS k (elQ n m k) n) n
def elW (n : Nat) (m : List Nat) : List (Nat × Nat) := (elQ n m n).2
/-- What every state of the elimination keeps. -/
structure ElI (n : Nat) (m : List Nat) (s : List Nat × List (Nat × Nat)) : Prop where
  run : s.1 = cxs m s.2
  ok : WOk n s.2
theorem ElI.add {n a b : Nat} {m : List Nat} {s : List Nat × List (Nat × Nat)} (h : ElI n m s) (ha : a < n) (hb : b < n) (hab : a ≠ b) : ElI n m (addE s (a, b)) :=
  ⟨by rw [addE, cxs_append, ← h.run]; rfl, fun e he => by
    rcases List.mem_append.1 he with h1 | h1
    · exact h.ok e h1
    · simp only [List.mem_singleton] at h1; subst h1; exact ⟨ha, hb, hab⟩⟩
theorem ElI.len {n : Nat} {m : List Nat} {s : List Nat × List (Nat × Nat)} (h : ElI n m s) (hm : m.length = n) : s.1.length = n := by rw [h.run, cxs_length, hm]
theorem elS_ok {n k : Nat} {m : List Nat} {s : List Nat × List (Nat × Nat)} (hk : k < n) (h : ElI n m s) : ∀ j, j ≤ n → ElI n m (elS k s j)
  | 0, _ => h
  | j + 1, hj => by
    have ih := elS_ok hk h j (by omega)
    rw [elS]; split
    · rename_i c; exact ih.add (by omega) hk (by omega)
    · exact ih
theorem elC_ok {n k : Nat} {m : List Nat} {s : List Nat × List (Nat × Nat)} (hk : k < n) (h : ElI n m s) : ∀ j, j ≤ n → ElI n m (elC k s j)
  | 0, _ => h
  | j + 1, hj => by
    have ih := elC_ok hk h j (by omega)
    rw [elC]; split
    · rename_i c; exact ih.add hk (by omega) (by omega)
    · exact ih
theorem elQ_ok {n : Nat} {m : List Nat} : ∀ k, k ≤ n → ElI n m (elQ n m k)
  | 0, _ => ⟨rfl, fun e h => by cases h⟩
  | k + 1, hk => elC_ok (by omega) (elS_ok (by omega) (elQ_ok k (by omega)) n (Nat.le_refl n)) n (Nat.le_refl n)
theorem elS_len (k : Nat) (s : List Nat × List (Nat × Nat)) : ∀ j, (elS k s j).2.length ≤ s.2.length + j
  | 0 => Nat.le_refl _
  | j + 1 => by
    have := elS_len k s j
    rw [elS]
    split
    · simp only [addE, List.length_append, List.length_cons, List.length_nil]; omega
    · omega
theorem elC_len (k : Nat) (s : List Nat × List (Nat × Nat)) : ∀ j, (elC k s j).2.length ≤ s.2.length + j
  | 0 => Nat.le_refl _
  | j + 1 => by
    have := elC_len k s j
    rw [elC]
    split
    · simp only [addE, List.length_append, List.length_cons, List.length_nil]; omega
    · omega
theorem elQ_len (n : Nat) (m : List Nat) : ∀ k, (elQ n m k).2.length ≤ k * (2 * n)
  | 0 => by simp [elQ]
  | k + 1 => by
    have h1 := elQ_len n m k
    have h2 := elS_len k (elQ n m k) n
    have h3 := elC_len k (elS k (elQ n m k) n) n
    rw [elQ, Nat.add_mul]; omega
theorem elS_low {k : Nat} {s : List Nat × List (Nat × Nat)} : ∀ j, j ≤ k + 1 → elS k s j = s
  | 0, _ => rfl
  | j + 1, h => by rw [elS, elS_low j (by omega), if_neg (by omega)]
theorem elS_stop {k i : Nat} {s : List Nat × List (Nat × Nat)} (h : (nx (elS k s i).1 k).testBit k = true) : ∀ d, elS k s (i + d) = elS k s i
  | 0 => rfl
  | d + 1 => by rw [← Nat.add_assoc, elS, elS_stop h d, if_neg (by rw [h]; simp)]
theorem elS_col {n k : Nat} {s : List Nat × List (Nat × Nat)} (hk : k < n) (h : Col n k s.1) : ∀ j, j ≤ n → Col n k (elS k s j).1 ∧ ((nx (elS k s j).1 k).testBit k = true ∨ (elS k s j).1 = s.1 ∧ ∀ i, k ≤ i → i < j → (nx s.1 i).testBit k = false ∨ i = k ∧ (nx s.1 k).testBit k = false)
  | 0, _ => ⟨h, .inr ⟨rfl, fun i _ h => by omega⟩⟩
  | j + 1, hj => by
    obtain ⟨ih, ih2⟩ := elS_col hk h j (by omega)
    rw [elS]; split
    · rename_i c
      refine ⟨ih.cx (by omega) (by omega) hk (by omega), .inl ?_⟩
      rw [addE, nx_cx (by rw [ih.len]; exact hk), if_pos rfl, Nat.testBit_xor, c.1.2, c.2]; rfl
    · rename_i c
      refine ⟨ih, ?_⟩
      cases hb : (nx (elS k s j).1 k).testBit k with
      | true => exact .inl rfl
      | false =>
        rcases ih2 with h1 | ⟨h1, h2⟩
        · rw [hb] at h1; cases h1
        · refine .inr ⟨h1, fun i e1 e2 => ?_⟩
          rw [h1] at c hb
          by_cases e : i = j
          · subst e
            by_cases e3 : i = k
            · subst e3; exact .inr ⟨rfl, hb⟩
            · left
              cases hx : (nx s.1 i).testBit k with
              | false => rfl
              | true => exact absurd ⟨⟨by omega, hb⟩, hx⟩ c
          · exact h2 i e1 (by omega)
theorem elS_piv {n k : Nat} {s : List Nat × List (Nat × Nat)} (hk : k < n) (h : Col n k s.1) : Col n k (elS k s n).1 ∧ (nx (elS k s n).1 k).testBit k = true := by
  obtain ⟨h1, h2⟩ := elS_col hk h n (Nat.le_refl n)
  refine ⟨h1, ?_⟩
  rcases h2 with h2 | ⟨_, h3⟩
  · exact h2
  · obtain ⟨i, e1, e2, e3⟩ := h.piv hk
    rcases h3 i e1 e2 with h4 | ⟨rfl, h4⟩ <;> rw [e3] at h4 <;> cases h4
theorem elC_col {n k : Nat} {s : List Nat × List (Nat × Nat)} (hk : k < n) (h : Col n k s.1) (hp : (nx s.1 k).testBit k = true) : ∀ j, j ≤ n → Col n k (elC k s j).1 ∧ (nx (elC k s j).1 k).testBit k = true ∧ ∀ i, i < j → i ≠ k → (nx (elC k s j).1 i).testBit k = false
  | 0, _ => ⟨h, hp, fun i h => by omega⟩
  | j + 1, hj => by
    obtain ⟨ih, i2, i3⟩ := elC_col hk h hp j (by omega)
    rw [elC]; split
    · rename_i c
      refine ⟨ih.cx (Nat.le_refl k) hk (by omega) (Ne.symm c.1), ?_, fun i h1 h2 => ?_⟩
      · rw [addE, nx_cx (by rw [ih.len]; exact hk), if_neg c.1]; exact i2
      · rw [addE, nx_cx (by rw [ih.len]; omega)]
        by_cases e : j = i
        · rw [if_pos e, Nat.testBit_xor, i2, ← e, c.2]; rfl
        · rw [if_neg e]; exact i3 i (by omega) h2
    · rename_i c
      refine ⟨ih, i2, fun i h1 h2 => ?_⟩
      by_cases e : i = j
      · subst e
        cases hx : (nx (elC k s i).1 i).testBit k with
        | false => rfl
        | true => exact absurd ⟨h2, hx⟩ c
      · exact i3 i (by omega) h2
theorem elQ_col {n : Nat} {m : List Nat} (hl : m.length = n) (hb : ∀ i, nx m i < 2 ^ n) (hi : Indep m) : ∀ k, k ≤ n → Col n k (elQ n m k).1
  | 0, _ => ⟨hl, hb, hi, fun c h => by omega⟩
  | k + 1, hk => by
    have ih := elQ_col hl hb hi k (by omega)
    obtain ⟨h1, h2⟩ := elS_piv (by omega) ih
    obtain ⟨h3, h4, h5⟩ := elC_col (show k < n by omega) h1 h2 n (Nat.le_refl n)
    refine ⟨h3.len, h3.lt, h3.ind, fun c hc i hi => ?_⟩
    by_cases e : c = k
    · subst e
      by_cases e2 : i = c
      · subst e2; rw [elQ, h4]; simp
      · rw [elQ, h5 i hi e2]; simp [e2]
    · exact h3.col c (by omega) i hi
theorem elW_run {n : Nat} {m : List Nat} (hl : m.length = n) (hb : ∀ i, nx m i < 2 ^ n) (hi : Indep m) : cxs m (elW n m) = idL n := by
  rw [elW, ← (elQ_ok (m := m) n (Nat.le_refl n)).run]; exact (elQ_col hl hb hi n (Nat.le_refl n)).id
theorem elW_ok (n : Nat) (m : List Nat) : WOk n (elW n m) := (elQ_ok (m := m) n (Nat.le_refl n)).ok
theorem elW_len {n : Nat} (hn : n ≤ 5) (m : List Nat) : (elW n m).length ≤ 50 := Nat.le_trans (elQ_len n m n) (Nat.le_trans (Nat.mul_le_mul hn (Nat.mul_le_mul (Nat.le_refl 2) hn)) (by decide))
theorem wok_rev {n : Nat} {w : List (Nat × Nat)} (h : WOk n w) : WOk n w.reverse := fun e he => h e (by simpa using he)
/-- The circuit by elimination has this map. -/
theorem syn_run {n : Nat} {m : List Nat} (hl : m.length = n) (hb : ∀ i, nx m i < 2 ^ n) (hi : Indep m) : cxs (idL n) (elW n m).reverse = m := by
  rw [← elW_run hl hb hi]; exact cxs_back _ _ hl (elW_ok n m)
/-! ### One map behind another -/
def thF (m : List Nat) (x : Nat) : Nat → Nat
  | 0 => 0
  | q + 1 => if x.testBit q then thF m x q ^^^ nx m q else thF m x q
theorem thF_lt {m : List Nat} {k : Nat} (h : ∀ i, nx m i < 2 ^ k) (x : Nat) : ∀ q, thF m x q < 2 ^ k
  | 0 => Nat.two_pow_pos k
  | q + 1 => by
    rw [thF]
    split
    · exact Nat.xor_lt_two_pow (thF_lt h x q) (h q)
    · exact thF_lt h x q
theorem thF_xor (m : List Nat) (x y : Nat) : ∀ q, thF m (x ^^^ y) q = thF m x q ^^^ thF m y q
  | 0 => by simp [thF]
  | q + 1 => by
    simp only [thF, Nat.testBit_xor, thF_xor m x y q]
    cases x.testBit q <;> cases y.testBit q <;> simp
    · rw [Nat.xor_assoc]
    · rw [Nat.xor_assoc, Nat.xor_assoc, Nat.xor_comm (nx m q)]
    · rw [show thF m x q ^^^ nx m q ^^^ (thF m y q ^^^ nx m q) = thF m x q ^^^ thF m y q ^^^ (nx m q ^^^ nx m q) by
        rw [Nat.xor_assoc, Nat.xor_assoc]; congr 1; rw [← Nat.xor_assoc, Nat.xor_comm (nx m q) (thF m y q), Nat.xor_assoc], Nat.xor_self, Nat.xor_zero]
theorem thF_pow (m : List Nat) (i : Nat) : ∀ q, thF m (2 ^ i) q = if i < q then nx m i else 0
  | 0 => by simp [thF]
  | q + 1 => by
    rw [thF, thF_pow m i q, Nat.testBit_two_pow]
    by_cases e : i = q
    · subst e; simp
    · rw [if_neg (by simp [e])]
      by_cases e2 : i < q
      · rw [if_pos e2, if_pos (by omega)]
      · rw [if_neg e2, if_neg (by omega)]
def comp (m l : List Nat) : List Nat := l.map fun x => thF m x m.length
@[simp] theorem comp_length (m l : List Nat) : (comp m l).length = l.length := by simp [comp]
theorem nx_comp {m l : List Nat} {i : Nat} (h : i < l.length) : nx (comp m l) i = thF m (nx l i) m.length := by simp [comp, nx, List.getD, h]
theorem comp_cx {m l : List Nat} {e : Nat × Nat} (h1 : e.1 < l.length) (h2 : e.2 < l.length) : comp m (cx l e) = cx (comp m l) e := by
  refine list_ext_nx (by simp) fun i hi => ?_
  simp only [comp_length, cx_length] at hi
  rw [nx_comp (by simpa using hi), nx_cx hi, nx_cx (by simpa using hi), nx_comp hi, nx_comp h1]
  split
  · rw [thF_xor]
  · rfl
theorem comp_cxs {n : Nat} (m : List Nat) : ∀ (w : List (Nat × Nat)) (l : List Nat), l.length = n → WOk n w → comp m (cxs l w) = cxs (comp m l) w
  | [], _, _, _ => rfl
  | e :: w, l, hl, hw => by
    have he := hw e (by simp)
    show comp m (cxs (cx l e) w) = cxs (cx (comp m l) e) w
    rw [comp_cxs m w (cx l e) (by simpa using hl) (fun x hx => hw x (by simp [hx])), comp_cx (by omega) (by omega)]
theorem comp_id {n : Nat} {m : List Nat} (hl : m.length = n) : comp m (idL n) = m := by
  refine list_ext_nx (by simp [hl]) fun i hi => ?_
  simp only [comp_length, idL_length] at hi
  rw [nx_comp (by simpa using hi), nx_idL hi, thF_pow, if_pos (by omega)]
theorem comp_inv {n : Nat} {m : List Nat} (hl : m.length = n) (hb : ∀ i, nx m i < 2 ^ n) (hi : Indep m) : comp m (cxs (idL n) (elW n m)) = idL n := by
  rw [comp_cxs m _ (idL n) (by simp) (elW_ok n m), comp_id hl, elW_run hl hb hi]
theorem idL_lt (n : Nat) : ∀ i, nx (idL n) i < 2 ^ n := by
  intro i
  by_cases hi : i < n
  · rw [nx_idL hi]; exact Nat.pow_lt_pow_right (by omega) hi
  · rw [nx_ge (by simp; omega)]; exact Nat.two_pow_pos n
theorem linOk_of {n : Nat} {l : List Nat} (h1 : 1 ≤ n) (h5 : n ≤ 5) (hl : l.length = n) (hb : ∀ i, nx l i < 2 ^ n) (hi : Indep l) : linOk (nl l) n = true := by
  have hn : nats (nl l) = l := by
    have : nl (nats (nl l)) = nl l := nl_nats fun x hx => by simp only [nl, List.mem_map] at hx; obtain ⟨y, _, rfl⟩ := hx; omega
    exact nl_inj this
  have hlt : ∀ x ∈ l, x < 2 ^ n := lt_nx fun i _ => hb i
  simp only [linOk, Bool.and_eq_true, decide_eq_true_eq, within_iff, Bool.not_eq_true', hn]
  refine ⟨⟨⟨by omega, by omega⟩, anyI_false fun i hin => ?_⟩, ?_⟩
  · have : within (ix (nl l) i) 0 (((2 ^ n : Nat) : Int) - 1) = true := within_iff.2 (by have := hb i; rw [ix_nl]; omega)
    rw [this]; rfl
  · rw [(rkS_full (k := 10) fun x hx => Nat.lt_of_lt_of_le (hlt x hx) (Nat.pow_le_pow_right (by omega) (by omega))).2 hi, hl]
/-- The inverse is valid. -/
theorem inv_ok {n : Nat} {m : List Nat} (hl : m.length = n) (hb : ∀ i, nx m i < 2 ^ n) (hi : Indep m) : Indep (cxs (idL n) (elW n m)) := by
  have h1 : Indep (idL n) := by rw [← elW_run hl hb hi]; exact indep_cxs _ _ hl (elW_ok n m) hi
  exact indep_cxs _ _ (by simp) (elW_ok n m) h1
/-! ### Circuits of additions and swaps -/
theorem swp_cx {l : List Nat} {a b : Nat} (ha : a < l.length) (hb : b < l.length) (hab : a ≠ b) : cx (cx (cx l (a, b)) (b, a)) (a, b) = swp l a b := by
  have ca : (cx l (a, b)).length = l.length := cx_length _ _
  have cb : (cx (cx l (a, b)) (b, a)).length = l.length := by rw [cx_length, ca]
  have x1a : nx (cx l (a, b)) a = nx l a := by rw [nx_cx ha]; exact if_neg (Ne.symm hab)
  have x1b : nx (cx l (a, b)) b = nx l b ^^^ nx l a := by rw [nx_cx hb]; exact if_pos rfl
  have x2a : nx (cx (cx l (a, b)) (b, a)) a = nx l b := by
    rw [nx_cx (by omega)]
    show (if a = a then nx (cx l (a, b)) a ^^^ nx (cx l (a, b)) b else _) = _
    rw [if_pos rfl, x1a, x1b, Nat.xor_comm (nx l b), ← Nat.xor_assoc, Nat.xor_self, Nat.zero_xor]
  have x2b : nx (cx (cx l (a, b)) (b, a)) b = nx l b ^^^ nx l a := by
    rw [nx_cx (by omega)]
    show (if a = b then _ else nx (cx l (a, b)) b) = _
    rw [if_neg hab, x1b]
  refine list_ext_nx (by simp) fun i hi => ?_
  simp only [cx_length] at hi
  rw [nx_swp ha hi, nx_cx (by omega)]
  show (if b = i then nx (cx (cx l (a, b)) (b, a)) i ^^^ nx (cx (cx l (a, b)) (b, a)) a else nx (cx (cx l (a, b)) (b, a)) i) = _
  by_cases e1 : b = i
  · subst e1
    rw [if_pos rfl, if_pos rfl, x2b, x2a, Nat.xor_comm (nx l b), Nat.xor_assoc, Nat.xor_self, Nat.xor_zero]
  · rw [if_neg e1, if_neg e1]
    by_cases e2 : a = i
    · subst e2; rw [if_pos rfl, x2a]
    · rw [if_neg e2, nx_cx (by omega)]
      show (if a = i then _ else nx (cx l (a, b)) i) = _
      rw [if_neg e2, nx_cx hi]
      exact if_neg e1
def loS (N : Nat) (xs : List Int) : Nat → Option (List Nat)
  | 0 => some (idL N)
  | k + 1 => (loS N xs k).bind fun l => if ix xs (k * 3) = 9 then some (cx l ((ix xs (k * 3 + 1)).toNat, (ix xs (k * 3 + 2)).toNat)) else if ix xs (k * 3) = 11 then some (swp l (ix xs (k * 3 + 1)).toNat (ix xs (k * 3 + 2)).toNat) else none
def loB (N : Int) (xs : List Int) (n : Nat) : Bool := circOk N xs n && (loS N.toNat xs n).isSome
def loL (N : Int) (xs : List Int) (n : Nat) : List Nat := if loB N xs n then (loS N.toNat xs n).getD [] else []
theorem loS_len {N : Nat} {xs : List Int} : ∀ {k : Nat} {l : List Nat}, loS N xs k = some l → l.length = N
  | 0, l, h => by simp only [loS, Option.some.injEq] at h; subst h; simp
  | k + 1, l, h => by
    rw [loS] at h
    cases hk : loS N xs k with
    | none => rw [hk] at h; cases h
    | some l' =>
      have := loS_len hk
      rw [hk] at h
      simp only [Option.bind_some] at h
      split at h
      · simp only [Option.some.injEq] at h; subst h; simpa using this
      · split at h
        · simp only [Option.some.injEq] at h; subst h; simpa using this
        · cases h
theorem swp_lt {k : Nat} {l : List Nat} {a b : Nat} (ha : a < l.length) (h : ∀ i, nx l i < 2 ^ k) : ∀ i, nx (swp l a b) i < 2 ^ k := by
  intro i
  by_cases hi : i < l.length
  · rw [nx_swp ha hi]; split
    · exact h a
    · split
      · exact h b
      · exact h i
  · rw [nx_ge (by rw [swp_length]; omega)]; exact Nat.two_pow_pos k
theorem loS_lt {N n : Nat} {xs : List Int} (hc : circOk (N : Int) xs n = true) : ∀ {k : Nat}, k ≤ n → ∀ {l : List Nat}, loS N xs k = some l → ∀ i, nx l i < 2 ^ N
  | 0, _, l, h => by simp only [loS, Option.some.injEq] at h; subst h; exact idL_lt N
  | k + 1, hkn, l, h => by
    rw [loS] at h
    cases hk : loS N xs k with
    | none => rw [hk] at h; cases h
    | some l' =>
      have ih := loS_lt hc (by omega) hk
      have hg := gateOk_split (circOk_gate hc (i := k) (by omega))
      have hl := loS_len hk
      rw [hk] at h
      simp only [Option.bind_some] at h
      split at h
      · simp only [Option.some.injEq] at h; subst h; exact cx_lt ih
      · split at h
        · simp only [Option.some.injEq] at h; subst h; exact swp_lt (by omega) ih
        · cases h
theorem loS_none {N : Nat} {xs : List Int} {k : Nat} (h : loS N xs k = none) : ∀ d, loS N xs (k + d) = none
  | 0 => h
  | d + 1 => by rw [← Nat.add_assoc, loS, loS_none h d]; rfl
theorem loS_cx {N : Nat} {w : List (Nat × Nat)} : ∀ {k : Nat}, k ≤ w.length → loS N (flCX w) k = some (cxs (idL N) (w.take k))
  | 0, _ => rfl
  | k + 1, hk => by
    have ih := loS_cx (N := N) (w := w) (k := k) (by omega)
    obtain ⟨h1, h2, h3⟩ := flCX_get (l := w) (k := k) (by omega)
    have e0 : ix (flCX w) (k * 3) = 9 := by simp [ix, List.getD, h1]
    have e1 : (ix (flCX w) (k * 3 + 1)).toNat = (gat w k).1 := by simp [ix, List.getD, h2]
    have e2 : (ix (flCX w) (k * 3 + 2)).toNat = (gat w k).2 := by simp [ix, List.getD, h3]
    have e3 : w.take (k + 1) = w.take k ++ [gat w k] := by rw [List.take_add_one]; simp [gat, List.getD, show k < w.length by omega]
    rw [loS, ih, Option.bind_some, if_pos e0, e1, e2, e3, cxs_append]; rfl
theorem loL_cx {n : Nat} {w : List (Nat × Nat)} (hn : 1 ≤ n ∧ n ≤ 5) (hw : WOk n w) (hl : w.length ≤ 400) : loB (n : Int) (flCX w) w.length = true ∧ loL (n : Int) (flCX w) w.length = cxs (idL n) w := by
  have h1 := loS_cx (N := n) (w := w) (Nat.le_refl _)
  rw [List.take_length] at h1
  have h2 : loB (n : Int) (flCX w) w.length = true := by rw [loB, circ_cx hn hw hl, Int.toNat_natCast, h1]; rfl
  exact ⟨h2, by rw [loL, if_pos h2, Int.toNat_natCast, h1]; rfl⟩

end Go.Proofs.Yteehfidjofcfmaa
