/- Plain laws: a linear map is eliminated, inverted, composed. -/
import Derived.Test.YteehfidjofcfmaaN3
import Derived.Test.YteehfidjofcfmaaProg
set_option linter.unusedSimpArgs false
set_option linter.unusedVariables false
namespace Go.Proofs.Yteehfidjofcfmaa
open Go Go.RowKit
/-! ### Independence is kept by additions -/
theorem parS_setR {j i y : Nat} : ∀ {s : List Bool} {r : List Nat}, s.length = r.length → i < r.length → parS s (r.set i y) j = (parS s r j ^^ (s.getD i false && (y ^^^ nx r i).testBit j))
  | [], [], _, h => by simp at h
  | b :: s, x :: r, hl, hi => by
    cases i with
    | zero =>
      simp only [List.set_cons_zero, parS, nx, List.getD_cons_zero, Nat.testBit_xor]
      cases b <;> cases y.testBit j <;> cases x.testBit j <;> simp
    | succ i =>
      have ih := parS_setR (j := j) (i := i) (y := y) (s := s) (r := r) (by simpa using hl) (by simpa using hi)
      simp only [List.set_cons_succ, parS, ih, nx, List.getD_cons_succ]
      cases (b && x.testBit j) <;> simp
  | [], _ :: _, hl, _ => by simp at hl
  | _ :: _, [], hl, _ => by simp at hl
theorem parS_setL {j i : Nat} {c : Bool} : ∀ {s : List Bool} {r : List Nat}, s.length = r.length → i < r.length → parS (s.set i c) r j = (parS s r j ^^ ((c ^^ s.getD i false) && (nx r i).testBit j))
  | [], [], _, h => by simp at h
  | b :: s, x :: r, hl, hi => by
    cases i with
    | zero =>
      simp only [List.set_cons_zero, parS, nx, List.getD_cons_zero]
      cases b <;> cases c <;> cases x.testBit j <;> simp
    | succ i =>
      have ih := parS_setL (j := j) (i := i) (c := c) (s := s) (r := r) (by simpa using hl) (by simpa using hi)
      simp only [List.set_cons_succ, parS, ih, nx, List.getD_cons_succ]
      cases (b && x.testBit j) <;> simp
  | [], _ :: _, hl, _ => by simp at hl
  | _ :: _, [], hl, _ => by simp at hl
theorem indep_cx {l : List Nat} {e : Nat × Nat} (h1 : e.1 < l.length) (h2 : e.2 < l.length) (h3 : e.1 ≠ e.2) (h : Indep l) : Indep (cx l e) := by
  intro s hs hz
  rw [cx_length] at hs
  have key : ∀ c ∈ s.set e.1 (s.getD e.1 false ^^ s.getD e.2 false), c = false := by
    refine h _ (by simpa using hs) fun j => ?_
    have h4 := hz j
    rw [cx, parS_setR hs h2] at h4
    rw [parS_setL hs h1]
    refine Eq.trans ?_ h4
    congr 1
    rw [Nat.testBit_xor, Nat.testBit_xor]
    cases s.getD e.1 false <;> cases s.getD e.2 false <;> cases (nx l e.2).testBit j <;> cases (nx l e.1).testBit j <;> rfl
  have h2s : s.getD e.2 false = false := by
    have h5 : (s.set e.1 (s.getD e.1 false ^^ s.getD e.2 false))[e.2]'(by simp; omega) ∈ s.set e.1 (s.getD e.1 false ^^ s.getD e.2 false) := List.getElem_mem _
    have h6 := key _ h5
    rw [List.getElem_set_ne h3] at h6
    rw [List.getD, List.getElem?_eq_getElem (by omega), Option.getD_some]; exact h6
  intro b hb
  obtain ⟨i, hi, rfl⟩ := List.getElem_of_mem hb
  by_cases c : e.1 = i
  · subst c
    have h5 : (s.set e.1 (s.getD e.1 false ^^ s.getD e.2 false))[e.1]'(by simp; omega) ∈ s.set e.1 (s.getD e.1 false ^^ s.getD e.2 false) := List.getElem_mem _
    have h6 := key _ h5
    rw [List.getElem_set_self, h2s, Bool.xor_false, List.getD, List.getElem?_eq_getElem (by omega), Option.getD_some] at h6
    exact h6
  · have h5 : (s.set e.1 (s.getD e.1 false ^^ s.getD e.2 false))[i]'(by simp; omega) ∈ s.set e.1 (s.getD e.1 false ^^ s.getD e.2 false) := List.getElem_mem _
    have h6 := key _ h5
    rw [List.getElem_set_ne c] at h6
    exact h6
theorem indep_cxs {n : Nat} : ∀ (w : List (Nat × Nat)) (l : List Nat), l.length = n → WOk n w → Indep l → Indep (cxs l w)
  | [], l, _, _, h => h
  | e :: w, l, hl, hw, h => by
    have he := hw e (by simp)
    exact indep_cxs w (cx l e) (by simpa using hl) (fun x hx => hw x (by simp [hx])) (indep_cx (by omega) (by omega) he.2.2 h)
theorem cx_lt {k : Nat} {l : List Nat} {e : Nat × Nat} (h : ∀ i, nx l i < 2 ^ k) : ∀ i, nx (cx l e) i < 2 ^ k := by
  intro i
  by_cases hi : i < l.length
  · rw [nx_cx hi]; split
    · exact Nat.xor_lt_two_pow (h i) (h e.1)
    · exact h i
  · rw [nx_ge (by rw [cx_length]; omega)]; exact Nat.two_pow_pos k
theorem cxs_lt {k : Nat} : ∀ (w : List (Nat × Nat)) (l : List Nat), (∀ i, nx l i < 2 ^ k) → ∀ i, nx (cxs l w) i < 2 ^ k
  | [], _, h => h
  | e :: w, l, h => cxs_lt w (cx l e) (cx_lt h)
/-! ### Columns that are ready -/
structure Col (n k : Nat) (l : List Nat) : Prop where
  len : l.length = n
  lt : ∀ i, nx l i < 2 ^ n
  ind : Indep l
  col : ∀ c, c < k → ∀ i, i < n → (nx l i).testBit c = decide (i = c)
theorem clrN_same {n b : Nat} {l : List Nat} (hl : l.length = n) (x : Nat) (h : ∀ i, i < n → i ≠ b → (nx l i).testBit b = false) : ∀ m, clrN b b x l m = l
  | 0 => rfl
  | m + 1 => by
    rw [clrN, clrN_same hl x h m]
    by_cases hm : m < n
    · by_cases e : m = b
      · rw [if_neg (by simp [e])]
      · rw [if_neg (by rw [h m hm e]; simp)]
    · rw [if_neg (by rw [nx_ge (by omega)]; simp)]
theorem swp_same {l : List Nat} {i : Nat} (h : i < l.length) : swp l i i = l := by
  refine list_ext_nx (by simp) fun j hj => ?_
  rw [swp_length] at hj
  rw [nx_swp h hj]
  split
  · subst_vars; rfl
  · rfl
theorem Col.rk {n k : Nat} {l : List Nat} (h : Col n k l) : ∀ b, b ≤ k → b ≤ n → rkR n l b = (l, b)
  | 0, _, _ => rfl
  | b + 1, hb, hbn => by
    have ih := h.rk b (by omega) (by omega)
    have hat : atR b n (rkR n l b) = b := by
      rw [ih]; exact scan_at (Nat.le_refl b) (by omega) (fun k h1 h2 => by omega) (by rw [h.col b (by omega) b (by omega)]; simp)
    rw [rkR_hit hat (by omega), ih, swp_same (by rw [h.len]; omega), clrN_same h.len _ fun i hi hne => by rw [h.col b (by omega) i hi]; simp [hne]]
theorem rkR_grow (n : Nat) (l : List Nat) (b : Nat) : (rkR n l (b + 1)).2 ≤ (rkR n l b).2 + 1 := by
  rw [rkR, rstep]; split <;> simp
theorem rkR_grow' (n : Nat) (l : List Nat) (b : Nat) : ∀ d, (rkR n l (b + d)).2 ≤ (rkR n l b).2 + d
  | 0 => by simp
  | d + 1 => by have h1 := rkR_grow' n l b d; have h2 := rkR_grow n l (b + d); rw [Nat.add_assoc] at h2; omega
theorem Col.piv {n k : Nat} {l : List Nat} (h : Col n k l) (hk : k < n) : ∃ i, k ≤ i ∧ i < n ∧ (nx l i).testBit k = true := by
  refine Classical.byContradiction fun hn => ?_
  have hno : ∀ i, k ≤ i → i < n → (nx l i).testBit k = false := fun i h1 h2 => by
    cases hb : (nx l i).testBit k with
    | false => rfl
    | true => exact absurd ⟨i, h1, h2, hb⟩ hn
  have e := h.rk k (Nat.le_refl k) (by omega)
  have hat : atR k n (rkR n l k) = n := by
    rw [e]; exact scan_none (by omega) hno
  have e2 := rkR_miss hat
  have hg := rkR_grow' n l (k + 1) (n - (k + 1))
  rw [show k + 1 + (n - (k + 1)) = n by omega, e2, e] at hg
  have hf := (rkR_full h.len (k := n) fun i _ => h.lt i).2 h.ind
  rw [hf] at hg
  simp only at hg; omega
theorem Col.id {n : Nat} {l : List Nat} (h : Col n n l) : l = idL n := by
  refine list_ext_nx (by rw [h.len]; simp) fun i hi => ?_
  rw [h.len] at hi
  rw [nx_idL hi]
  refine Nat.eq_of_testBit_eq fun c => ?_
  rw [Nat.testBit_two_pow]
  by_cases hc : c < n
  · rw [h.col c hc i hi]
  · rw [Nat.testBit_lt_two_pow (Nat.lt_of_lt_of_le (h.lt i) (Nat.pow_le_pow_right (by omega) (by omega)))]
    simp; omega
theorem Col.cx {n k a b : Nat} {l : List Nat} (h : Col n k l) (ha : k ≤ a) (han : a < n) (hb : b < n) (hab : a ≠ b) : Col n k (cx l (a, b)) := by
  refine ⟨by simpa using h.len, cx_lt h.lt, indep_cx (by rw [h.len]; exact han) (by rw [h.len]; exact hb) hab h.ind, fun c hc i hi => ?_⟩
  rw [nx_cx (by rw [h.len]; exact hi)]
  split
  · rw [Nat.testBit_xor, h.col c hc i hi, h.col c hc a han, show decide (a = c) = false by simp; omega, Bool.xor_false]
  · exact h.col c hc i hi
/-! ### Elimination -/
def addE (s : List Nat × List (Nat × Nat)) (e : Nat × Nat) : List Nat × List (Nat × Nat) := (cx s.1 e, s.2 ++ [e])
def elS (k : Nat) (s : List Nat × List (Nat × Nat)) : Nat → List Nat × List (Nat × Nat)
  | 0 => s
  | j + 1 => if (k < j ∧ (nx (elS k s j).1 k).testBit k = false) ∧ (nx (elS k s j).1 j).testBit k = true then addE (elS k s j) (j, k) else elS k s j
def elC (k : Nat) (s : List Nat × List (Nat × Nat)) : Nat → List Nat × List (Nat × Nat)
  | 0 => s
  | j + 1 => if j ≠ k ∧ (nx (elC k s j).1 j).testBit k = true then addE (elC k s j) (k, j) else elC k s j
def elQ (n : Nat) (m : List Nat) : Nat → List Nat × List (Nat × Nat)
  | 0 => (m, [])
  | k + 1 => elC k (elS k (elQ n m k) n) n
def elW (n : Nat) (m : List Nat) : List (Nat × Nat) := (elQ n m n).2
/-- What every state of the elimination keeps. -/
structure ElI (n : Nat) (m : List Nat) (s : List Nat × List (Nat × Nat)) : Prop where
  run : s.1 = cxs m s.2
  ok : WOk n s.2
theorem ElI.add {n a b : Nat} {m : List Nat} {s : List Nat × List (Nat × Nat)} (h : ElI n m s) (ha : a < n) (hb : b < n) (hab : a ≠ b) : ElI n m (addE s (a, b)) :=
  ⟨by rw [addE, cxs_append, ← h.run]; rfl, fun e he => by
    rcases List.mem_append.1 he with h1 | h1
    · exact h.ok e h1
    · simp only [List.mem_singleton] at h1; subst h1; exact ⟨ha, hb, hab⟩⟩
theorem ElI.len {n : Nat} {m : List Nat} {s : List Nat × List (Nat × Nat)} (h : ElI n m s) (hm : m.length = n) : s.1.length = n := by rw [h.run, cxs_length, hm]
theorem elS_ok {n k : Nat} {m : List Nat} {s : List Nat × List (Nat × Nat)} (hk : k < n) (h : ElI n m s) : ∀ j, j ≤ n → ElI n m (elS k s j)
  | 0, _ => h
  | j + 1, hj => by
    have ih := elS_ok hk h j (by omega)
    rw [elS]; split
    · rename_i c; exact ih.add (by omega) hk (by omega)
    · exact ih
theorem elC_ok {n k : Nat} {m : List Nat} {s : List Nat × List (Nat × Nat)} (hk : k < n) (h : ElI n m s) : ∀ j, j ≤ n → ElI n m (elC k s j)
  | 0, _ => h
  | j + 1, hj => by
    have ih := elC_ok hk h j (by omega)
    rw [elC]; split
    · rename_i c; exact ih.add hk (by omega) (by omega)
    · exact ih
theorem elQ_ok {n : Nat} {m : List Nat} : ∀ k, k ≤ n → ElI n m (elQ n m k)
  | 0, _ => ⟨rfl, fun e h => by cases h⟩
  | k + 1, hk => elC_ok (by omega) (elS_ok (by omega) (elQ_ok k (by omega)) n (Nat.le_refl n)) n (Nat.le_refl n)
theorem elS_len (k : Nat) (s : List Nat × List (Nat × Nat)) : ∀ j, (elS k s j).2.length ≤ s.2.length + j
  | 0 => Nat.le_refl _
  | j + 1 => by
    have := elS_len k s j
    rw [elS]
    split
    · simp only [addE, List.length_append, List.length_cons, List.length_nil]; omega
    · omega
theorem elC_len (k : Nat) (s : List Nat × List (Nat × Nat)) : ∀ j, (elC k s j).2.length ≤ s.2.length + j
  | 0 => Nat.le_refl _
  | j + 1 => by
    have := elC_len k s j
    rw [elC]
    split
    · simp only [addE, List.length_append, List.length_cons, List.length_nil]; omega
    · omega
theorem elQ_len (n : Nat) (m : List Nat) : ∀ k, (elQ n m k).2.length ≤ k * (2 * n)
  | 0 => by simp [elQ]
  | k + 1 => by
    have h1 := elQ_len n m k
    have h2 := elS_len k (elQ n m k) n
    have h3 := elC_len k (elS k (elQ n m k) n) n
    rw [elQ, Nat.add_mul]; omega
theorem elS_low {k : Nat} {s : List Nat × List (Nat × Nat)} : ∀ j, j ≤ k + 1 → elS k s j = s
  | 0, _ => rfl
  | j + 1, h => by rw [elS, elS_low j (by omega), if_neg (by omega)]
theorem elS_stop {k i : Nat} {s : List Nat × List (Nat × Nat)} (h : (nx (elS k s i).1 k).testBit k = true) : ∀ d, elS k s (i + d) = elS k s i
  | 0 => rfl
  | d + 1 => by rw [← Nat.add_assoc, elS, elS_stop h d, if_neg (by rw [h]; simp)]
theorem elS_col {n k : Nat} {s : List Nat × List (Nat × Nat)} (hk : k < n) (h : Col n k s.1) : ∀ j, j ≤ n → Col n k (elS k s j).1 ∧ ((nx (elS k s j).1 k).testBit k = true ∨ (elS k s j).1 = s.1 ∧ ∀ i, k ≤ i → i < j → (nx s.1 i).testBit k = false ∨ i = k ∧ (nx s.1 k).testBit k = false)
  | 0, _ => ⟨h, .inr ⟨rfl, fun i _ h => by omega⟩⟩
  | j + 1, hj => by
    obtain ⟨ih, ih2⟩ := elS_col hk h j (by omega)
    rw [elS]; split
    · rename_i c
      refine ⟨ih.cx (by omega) (by omega) hk (by omega), .inl ?_⟩
      rw [addE, nx_cx (by rw [ih.len]; exact hk), if_pos rfl, Nat.testBit_xor, c.1.2, c.2]; rfl
    · rename_i c
      refine ⟨ih, ?_⟩
      cases hb : (nx (elS k s j).1 k).testBit k with
      | true => exact .inl rfl
      | false =>
        rcases ih2 with h1 | ⟨h1, h2⟩
        · rw [hb] at h1; cases h1
        · refine .inr ⟨h1, fun i e1 e2 => ?_⟩
          rw [h1] at c hb
          by_cases e : i = j
          · subst e
            by_cases e3 : i = k
            · subst e3; exact .inr ⟨rfl, hb⟩
            · left
              cases hx : (nx s.1 i).testBit k with
              | false => rfl
              | true => exact absurd ⟨⟨by omega, hb⟩, hx⟩ c
          · exact h2 i e1 (by omega)
theorem elS_piv {n k : Nat} {s : List Nat × List (Nat × Nat)} (hk : k < n) (h : Col n k s.1) : Col n k (elS k s n).1 ∧ (nx (elS k s n).1 k).testBit k = true := by
  obtain ⟨h1, h2⟩ := elS_col hk h n (Nat.le_refl n)
  refine ⟨h1, ?_⟩
  rcases h2 with h2 | ⟨_, h3⟩
  · exact h2
  · obtain ⟨i, e1, e2, e3⟩ := h.piv hk
    rcases h3 i e1 e2 with h4 | ⟨rfl, h4⟩ <;> rw [e3] at h4 <;> cases h4
theorem elC_col {n k : Nat} {s : List Nat × List (Nat × Nat)} (hk : k < n) (h : Col n k s.1) (hp : (nx s.1 k).testBit k = true) : ∀ j, j ≤ n → Col n k (elC k s j).1 ∧ (nx (elC k s j).1 k).testBit k = true ∧ ∀ i, i < j → i ≠ k → (nx (elC k s j).1 i).testBit k = false
  | 0, _ => ⟨h, hp, fun i h => by omega⟩
  | j + 1, hj => by
    obtain ⟨ih, i2, i3⟩ := elC_col hk h hp j (by omega)
    rw [elC]; split
    · rename_i c
      refine ⟨ih.cx (Nat.le_refl k) hk (by omega) (Ne.symm c.1), ?_, fun i h1 h2 => ?_⟩
      · rw [addE, nx_cx (by rw [ih.len]; exact hk), if_neg c.1]; exact i2
      · rw [addE, nx_cx (by rw [ih.len]; omega)]
        by_cases e : j = i
        · rw [if_pos e, Nat.testBit_xor, i2, ← e, c.2]; rfl
        · rw [if_neg e]; exact i3 i (by omega) h2
    · rename_i c
      refine ⟨ih, i2, fun i h1 h2 => ?_⟩
      by_cases e : i = j
      · subst e
        cases hx : (nx (elC k s i).1 i).testBit k with
        | false => rfl
        | true => exact absurd ⟨h2, hx⟩ c
      · exact i3 i (by omega) h2
theorem elQ_col {n : Nat} {m : List Nat} (hl : m.length = n) (hb : ∀ i, nx m i < 2 ^ n) (hi : Indep m) : ∀ k, k ≤ n → Col n k (elQ n m k).1
  | 0, _ => ⟨hl, hb, hi, fun c h => by omega⟩
  | k + 1, hk => by
    have ih := elQ_col hl hb hi k (by omega)
    obtain ⟨h1, h2⟩ := elS_piv (by omega) ih
    obtain ⟨h3, h4, h5⟩ := elC_col (show k < n by omega) h1 h2 n (Nat.le_refl n)
    refine ⟨h3.len, h3.lt, h3.ind, fun c hc i hi => ?_⟩
    by_cases e : c = k
    · subst e
      by_cases e2 : i = c
      · subst e2; rw [elQ, h4]; simp
      · rw [elQ, h5 i hi e2]; simp [e2]
    · exact h3.col c (by omega) i hi
theorem elW_run {n : Nat} {m : List Nat} (hl : m.length = n) (hb : ∀ i, nx m i < 2 ^ n) (hi : Indep m) : cxs m (elW n m) = idL n := by
  rw [elW, ← (elQ_ok (m := m) n (Nat.le_refl n)).run]; exact (elQ_col hl hb hi n (Nat.le_refl n)).id
theorem elW_ok (n : Nat) (m : List Nat) : WOk n (elW n m) := (elQ_ok (m := m) n (Nat.le_refl n)).ok
theorem elW_len {n : Nat} (hn : n ≤ 5) (m : List Nat) : (elW n m).length ≤ 50 := Nat.le_trans (elQ_len n m n) (Nat.le_trans (Nat.mul_le_mul hn (Nat.mul_le_mul (Nat.le_refl 2) hn)) (by decide))
theorem wok_rev {n : Nat} {w : List (Nat × Nat)} (h : WOk n w) : WOk n w.reverse := fun e he => h e (by simpa using he)
/-- The circuit by elimination has this map. -/
theorem syn_run {n : Nat} {m : List Nat} (hl : m.length = n) (hb : ∀ i, nx m i < 2 ^ n) (hi : Indep m) : cxs (idL n) (elW n m).reverse = m := by
  rw [← elW_run hl hb hi]; exact cxs_back _ _ hl (elW_ok n m)
/-! ### One map behind another -/
def thF (m : List Nat) (x : Nat) : Nat → Nat
  | 0 => 0
  | q + 1 => if x.testBit q then thF m x q ^^^ nx m q else thF m x q
theorem thF_lt {m : List Nat} {k : Nat} (h : ∀ i, nx m i < 2 ^ k) (x : Nat) : ∀ q, thF m x q < 2 ^ k
  | 0 => Nat.two_pow_pos k
  | q + 1 => by
    rw [thF]
    split
    · exact Nat.xor_lt_two_pow (thF_lt h x q) (h q)
    · exact thF_lt h x q
theorem thF_xor (m : List Nat) (x y : Nat) : ∀ q, thF m (x ^^^ y) q = thF m x q ^^^ thF m y q
  | 0 => by simp [thF]
  | q + 1 => by
    simp only [thF, Nat.testBit_xor, thF_xor m x y q]
    cases x.testBit q <;> cases y.testBit q <;> simp
    · rw [Nat.xor_assoc]
    · rw [Nat.xor_assoc, Nat.xor_assoc, Nat.xor_comm (nx m q)]
    · rw [show thF m x q ^^^ nx m q ^^^ (thF m y q ^^^ nx m q) = thF m x q ^^^ thF m y q ^^^ (nx m q ^^^ nx m q) by
        rw [Nat.xor_assoc, Nat.xor_assoc]; congr 1; rw [← Nat.xor_assoc, Nat.xor_comm (nx m q) (thF m y q), Nat.xor_assoc], Nat.xor_self, Nat.xor_zero]
theorem thF_pow (m : List Nat) (i : Nat) : ∀ q, thF m (2 ^ i) q = if i < q then nx m i else 0
  | 0 => by simp [thF]
  | q + 1 => by
    rw [thF, thF_pow m i q, Nat.testBit_two_pow]
    by_cases e : i = q
    · subst e; simp
    · rw [if_neg (by simp [e])]
      by_cases e2 : i < q
      · rw [if_pos e2, if_pos (by omega)]
      · rw [if_neg e2, if_neg (by omega)]
def comp (m l : List Nat) : List Nat := l.map fun x => thF m x m.length
@[simp] theorem comp_length (m l : List Nat) : (comp m l).length = l.length := by simp [comp]
theorem nx_comp {m l : List Nat} {i : Nat} (h : i < l.length) : nx (comp m l) i = thF m (nx l i) m.length := by simp [comp, nx, List.getD, h]
theorem comp_cx {m l : List Nat} {e : Nat × Nat} (h1 : e.1 < l.length) (h2 : e.2 < l.length) : comp m (cx l e) = cx (comp m l) e := by
  refine list_ext_nx (by simp) fun i hi => ?_
  simp only [comp_length, cx_length] at hi
  rw [nx_comp (by simpa using hi), nx_cx hi, nx_cx (by simpa using hi), nx_comp hi, nx_comp h1]
  split
  · rw [thF_xor]
  · rfl
theorem comp_cxs {n : Nat} (m : List Nat) : ∀ (w : List (Nat × Nat)) (l : List Nat), l.length = n → WOk n w → comp m (cxs l w) = cxs (comp m l) w
  | [], _, _, _ => rfl
  | e :: w, l, hl, hw => by
    have he := hw e (by simp)
    show comp m (cxs (cx l e) w) = cxs (cx (comp m l) e) w
    rw [comp_cxs m w (cx l e) (by simpa using hl) (fun x hx => hw x (by simp [hx])), comp_cx (by omega) (by omega)]
theorem comp_id {n : Nat} {m : List Nat} (hl : m.length = n) : comp m (idL n) = m := by
  refine list_ext_nx (by simp [hl]) fun i hi => ?_
  simp only [comp_length, idL_length] at hi
  rw [nx_comp (by simpa using hi), nx_idL hi, thF_pow, if_pos (by omega)]
theorem comp_inv {n : Nat} {m : List Nat} (hl : m.length = n) (hb : ∀ i, nx m i < 2 ^ n) (hi : Indep m) : comp m (cxs (idL n) (elW n m)) = idL n := by
  rw [comp_cxs m _ (idL n) (by simp) (elW_ok n m), comp_id hl, elW_run hl hb hi]
theorem idL_lt (n : Nat) : ∀ i, nx (idL n) i < 2 ^ n := by
  intro i
  by_cases hi : i < n
  · rw [nx_idL hi]; exact Nat.pow_lt_pow_right (by omega) hi
  · rw [nx_ge (by simp; omega)]; exact Nat.two_pow_pos n
theorem linOk_of {n : Nat} {l : List Nat} (h1 : 1 ≤ n) (h5 : n ≤ 5) (hl : l.length = n) (hb : ∀ i, nx l i < 2 ^ n) (hi : Indep l) : linOk (nl l) n = true := by
  have hn : nats (nl l) = l := by
    have : nl (nats (nl l)) = nl l := nl_nats fun x hx => by simp only [nl, List.mem_map] at hx; obtain ⟨y, _, rfl⟩ := hx; omega
    exact nl_inj this
  have hlt : ∀ x ∈ l, x < 2 ^ n := lt_nx fun i _ => hb i
  simp only [linOk, Bool.and_eq_true, decide_eq_true_eq, within_iff, Bool.not_eq_true', hn]
  refine ⟨⟨⟨by omega, by omega⟩, anyI_false fun i hin => ?_⟩, ?_⟩
  · have : within (ix (nl l) i) 0 (((2 ^ n : Nat) : Int) - 1) = true := within_iff.2 (by have := hb i; rw [ix_nl]; omega)
    rw [this]; rfl
  · rw [(rkS_full (k := 10) fun x hx => Nat.lt_of_lt_of_le (hlt x hx) (Nat.pow_le_pow_right (by omega) (by omega))).2 hi, hl]
/-- The inverse is valid. -/
theorem inv_ok {n : Nat} {m : List Nat} (hl : m.length = n) (hb : ∀ i, nx m i < 2 ^ n) (hi : Indep m) : Indep (cxs (idL n) (elW n m)) := by
  have h1 : Indep (idL n) := by rw [← elW_run hl hb hi]; exact indep_cxs _ _ hl (elW_ok n m) hi
  exact indep_cxs _ _ (by simp) (elW_ok n m) h1
/-! ### Circuits of additions and swaps -/
theorem swp_cx {l : List Nat} {a b : Nat} (ha : a < l.length) (hb : b < l.length) (hab : a ≠ b) : cx (cx (cx l (a, b)) (b, a)) (a, b) = swp l a b := by
  have ca : (cx l (a, b)).length = l.length := cx_length _ _
  have cb : (cx (cx l (a, b)) (b, a)).length = l.length := by rw [cx_length, ca]
  have x1a : nx (cx l (a, b)) a = nx l a := by rw [nx_cx ha]; exact if_neg (Ne.symm hab)
  have x1b : nx (cx l (a, b)) b = nx l b ^^^ nx l a := by rw [nx_cx hb]; exact if_pos rfl
  have x2a : nx (cx (cx l (a, b)) (b, a)) a = nx l b := by
    rw [nx_cx (by omega)]
    show (if a = a then nx (cx l (a, b)) a ^^^ nx (cx l (a, b)) b else _) = _
    rw [if_pos rfl, x1a, x1b, Nat.xor_comm (nx l b), ← Nat.xor_assoc, Nat.xor_self, Nat.zero_xor]
  have x2b : nx (cx (cx l (a, b)) (b, a)) b = nx l b ^^^ nx l a := by
    rw [nx_cx (by omega)]
    show (if a = b then _ else nx (cx l (a, b)) b) = _
    rw [if_neg hab, x1b]
  refine list_ext_nx (by simp) fun i hi => ?_
  simp only [cx_length] at hi
  rw [nx_swp ha hi, nx_cx (by omega)]
  show (if b = i then nx (cx (cx l (a, b)) (b, a)) i ^^^ nx (cx (cx l (a, b)) (b, a)) a else nx (cx (cx l (a, b)) (b, a)) i) = _
  by_cases e1 : b = i
  · subst e1
    rw [if_pos rfl, if_pos rfl, x2b, x2a, Nat.xor_comm (nx l b), Nat.xor_assoc, Nat.xor_self, Nat.xor_zero]
  · rw [if_neg e1, if_neg e1]
    by_cases e2 : a = i
    · subst e2; rw [if_pos rfl, x2a]
    · rw [if_neg e2, nx_cx (by omega)]
      show (if a = i then _ else nx (cx l (a, b)) i) = _
      rw [if_neg e2, nx_cx hi]
      exact if_neg e1
def loS (N : Nat) (xs : List Int) : Nat → Option (List Nat)
  | 0 => some (idL N)
  | k + 1 => (loS N xs k).bind fun l => if ix xs (k * 3) = 9 then some (cx l ((ix xs (k * 3 + 1)).toNat, (ix xs (k * 3 + 2)).toNat)) else if ix xs (k * 3) = 11 then some (swp l (ix xs (k * 3 + 1)).toNat (ix xs (k * 3 + 2)).toNat) else none
def loB (N : Int) (xs : List Int) (n : Nat) : Bool := circOk N xs n && (loS N.toNat xs n).isSome
def loL (N : Int) (xs : List Int) (n : Nat) : List Nat := if loB N xs n then (loS N.toNat xs n).getD [] else []
theorem loS_len {N : Nat} {xs : List Int} : ∀ {k : Nat} {l : List Nat}, loS N xs k = some l → l.length = N
  | 0, l, h => by simp only [loS, Option.some.injEq] at h; subst h; simp
  | k + 1, l, h => by
    rw [loS] at h
    cases hk : loS N xs k with
    | none => rw [hk] at h; cases h
    | some l' =>
      have := loS_len hk
      rw [hk] at h
      simp only [Option.bind_some] at h
      split at h
      · simp only [Option.some.injEq] at h; subst h; simpa using this
      · split at h
        · simp only [Option.some.injEq] at h; subst h; simpa using this
        · cases h
theorem swp_lt {k : Nat} {l : List Nat} {a b : Nat} (ha : a < l.length) (h : ∀ i, nx l i < 2 ^ k) : ∀ i, nx (swp l a b) i < 2 ^ k := by
  intro i
  by_cases hi : i < l.length
  · rw [nx_swp ha hi]; split
    · exact h a
    · split
      · exact h b
      · exact h i
  · rw [nx_ge (by rw [swp_length]; omega)]; exact Nat.two_pow_pos k
theorem loS_lt {N n : Nat} {xs : List Int} (hc : circOk (N : Int) xs n = true) : ∀ {k : Nat}, k ≤ n → ∀ {l : List Nat}, loS N xs k = some l → ∀ i, nx l i < 2 ^ N
  | 0, _, l, h => by simp only [loS, Option.some.injEq] at h; subst h; exact idL_lt N
  | k + 1, hkn, l, h => by
    rw [loS] at h
    cases hk : loS N xs k with
    | none => rw [hk] at h; cases h
    | some l' =>
      have ih := loS_lt hc (by omega) hk
      have hg := gateOk_split (circOk_gate hc (i := k) (by omega))
      have hl := loS_len hk
      rw [hk] at h
      simp only [Option.bind_some] at h
      split at h
      · simp only [Option.some.injEq] at h; subst h; exact cx_lt ih
      · split at h
        · simp only [Option.some.injEq] at h; subst h; exact swp_lt (by omega) ih
        · cases h
theorem loS_none {N : Nat} {xs : List Int} {k : Nat} (h : loS N xs k = none) : ∀ d, loS N xs (k + d) = none
  | 0 => h
  | d + 1 => by rw [← Nat.add_assoc, loS, loS_none h d]; rfl
theorem loS_cx {N : Nat} {w : List (Nat × Nat)} : ∀ {k : Nat}, k ≤ w.length → loS N (flCX w) k = some (cxs (idL N) (w.take k))
  | 0, _ => rfl
  | k + 1, hk => by
    have ih := loS_cx (N := N) (w := w) (k := k) (by omega)
    obtain ⟨h1, h2, h3⟩ := flCX_get (l := w) (k := k) (by omega)
    have e0 : ix (flCX w) (k * 3) = 9 := by simp [ix, List.getD, h1]
    have e1 : (ix (flCX w) (k * 3 + 1)).toNat = (gat w k).1 := by simp [ix, List.getD, h2]
    have e2 : (ix (flCX w) (k * 3 + 2)).toNat = (gat w k).2 := by simp [ix, List.getD, h3]
    have e3 : w.take (k + 1) = w.take k ++ [gat w k] := by rw [List.take_add_one]; simp [gat, List.getD, show k < w.length by omega]
    rw [loS, ih, Option.bind_some, if_pos e0, e1, e2, e3, cxs_append]; rfl
theorem loL_cx {n : Nat} {w : List (Nat × Nat)} (hn : 1 ≤ n ∧ n ≤ 5) (hw : WOk n w) (hl : w.length ≤ 400) : loB (n : Int) (flCX w) w.length = true ∧ loL (n : Int) (flCX w) w.length = cxs (idL n) w := by
  have h1 := loS_cx (N := n) (w := w) (Nat.le_refl _)
  rw [List.take_length] at h1
  have h2 : loB (n : Int) (flCX w) w.length = true := by rw [loB, circ_cx hn hw hl, Int.toNat_natCast, h1]; rfl
  exact ⟨h2, by rw [loL, if_pos h2, Int.toNat_natCast, h1]; rfl⟩

end Go.Proofs.Yteehfidjofcfmaa
/- Walks: circuits by elimination, of program and reference. -/
set_option linter.unusedSimpArgs false
set_option linter.unusedVariables false
namespace Go.Proofs.Yteehfidjofcfmaa
open Go Go.RowKit
namespace ElwT
theorem Tagg_28 : aggOf Try.prog 28 = some 1 := by kernel_rfl
theorem Tagg_38 : aggOf Try.prog 38 = some 2 := by kernel_rfl
theorem Tagg_71 : aggOf Try.prog 71 = some 3 := by kernel_rfl
theorem Tcall_109 : callable Try.prog 109 = true := by kernel_rfl
theorem Tcall_127 : callable Try.prog 127 = true := by kernel_rfl
theorem Tcall_35 : callable Try.prog 35 = true := by kernel_rfl
theorem Tcall_52 : callable Try.prog 52 = true := by kernel_rfl
theorem Tcall_59 : callable Try.prog 59 = true := by kernel_rfl
theorem Tcall_60 : callable Try.prog 60 = true := by kernel_rfl
theorem Tcall_71 : callable Try.prog 71 = true := by kernel_rfl
theorem Tcall_92 : callable Try.prog 92 = true := by kernel_rfl
theorem Tcall_98 : callable Try.prog 98 = true := by kernel_rfl
theorem Tcall_99 : callable Try.prog 99 = true := by kernel_rfl
theorem Tfo_28_0 : fieldOff Try.prog 28 0 = some 0 := by kernel_rfl
theorem Tfo_38_1 : fieldOff Try.prog 38 1 = some 1 := by kernel_rfl
theorem Tint_96 : Try.prog.underlying 96 = some (.int .u64) := by kernel_rfl
theorem Tone_22 : oneOf Try.prog 22 = true := by kernel_rfl
theorem Tone_3 : oneOf Try.prog 3 = true := by kernel_rfl
theorem Tone_36 : oneOf Try.prog 36 = true := by kernel_rfl
theorem Tsize_22 : (Try.prog.info? 22).map (·.size) = some 1 := by kernel_rfl
theorem Tsize_28 : (Try.prog.info? 28).map (·.size) = some 1 := by kernel_rfl
theorem Tsize_3 : (Try.prog.info? 3).map (·.size) = some 1 := by kernel_rfl
theorem Tsize_36 : (Try.prog.info? 36).map (·.size) = some 1 := by kernel_rfl
theorem Tsize_38 : (Try.prog.info? 38).map (·.size) = some 2 := by kernel_rfl
theorem Tsize_71 : (Try.prog.info? 71).map (·.size) = some 3 := by kernel_rfl
theorem Tsl_22 : sliceOf Try.prog 22 = some (3, 1, 8, [.int .i64 0]) := by kernel_rfl
theorem Tsl_36 : sliceOf Try.prog 36 = some (71, 3, 24, [.int .i64 0, .int .i64 0, .int .i64 0]) := by kernel_rfl
theorem Tsome_3 : (Try.prog.underlying 3).isSome = true := by kernel_rfl
theorem Tzero_22 : zeroOf Try.prog 22 = some [.slice none 0 0] := by kernel_rfl
theorem Tzero_28 : zeroOf Try.prog 28 = some [.slice none 0 0] := by kernel_rfl
theorem Tzero_36 : zeroOf Try.prog 36 = some [.slice none 0 0] := by kernel_rfl
theorem Tzero_38 : zeroOf Try.prog 38 = some [.int .i64 0, .slice none 0 0] := by kernel_rfl
end ElwT
open ElwT
theorem ElI.facts {n : Nat} {m : List Nat} {s : List Nat × List (Nat × Nat)} (h : ElI n m s) (hl : m.length = n) (hb : ∀ i, nx m i < 2 ^ n) (h5 : n ≤ 5) : s.1.length = n ∧ (nl s.1).length = n ∧ ∀ i, nx s.1 i < 32 := by
  refine ⟨h.len hl, by rw [nl_length, h.len hl], fun i => ?_⟩
  have h1 : nx s.1 i < 2 ^ n := by rw [h.run]; exact cxs_lt s.2 m hb i
  have h2 : 2 ^ n ≤ 2 ^ 5 := Nat.pow_le_pow_right (by omega) h5
  exact Nat.lt_of_lt_of_le h1 h2
theorem elS_add {k j : Nat} {s : List Nat × List (Nat × Nat)} (h1 : k < j) (h2 : (nx (elS k s j).1 k).testBit k = false) (h3 : (nx (elS k s j).1 j).testBit k = true) : elS k s (j + 1) = addE (elS k s j) (j, k) := by rw [elS, if_pos ⟨⟨h1, h2⟩, h3⟩]
theorem elS_skip {k j : Nat} {s : List Nat × List (Nat × Nat)} (h3 : (nx (elS k s j).1 j).testBit k = false) : elS k s (j + 1) = elS k s j := by rw [elS, if_neg (by rw [h3]; simp)]
theorem elC_add {k j : Nat} {s : List Nat × List (Nat × Nat)} (h1 : j ≠ k) (h3 : (nx (elC k s j).1 j).testBit k = true) : elC k s (j + 1) = addE (elC k s j) (k, j) := by rw [elC, if_pos ⟨h1, h3⟩]
theorem elC_skip {k j : Nat} {s : List Nat × List (Nat × Nat)} (h3 : ¬ (j ≠ k ∧ (nx (elC k s j).1 j).testBit k = true)) : elC k s (j + 1) = elC k s j := by rw [elC, if_neg h3]
theorem bz0 {l : List Nat} {i k : Nat} : (ix (nl l) i >>> k % 2 == 0) = !(nx l i).testBit k := by
  rw [← bitI_nl, bitI]
  have h := Int.emod_two_eq (ix (nl l) i >>> k)
  rcases h with h | h <;> simp [h]
theorem bt1 {l : List Nat} {i k : Nat} (h : ix (nl l) i >>> k % 2 = 1) : (nx l i).testBit k = true := by rw [← bitI_nl]; exact bitI_true h
theorem bn1 {l : List Nat} {i k : Nat} (h : ¬ ix (nl l) i >>> k % 2 = 1) : (nx l i).testBit k = false := by rw [← bitI_nl]; exact bitI_ne1 h

set_option maxHeartbeats 1000000 in
set_option maxRecDepth 20000 in
theorem elclo_spec {vg : Value} {bR bG gr cr n t u : Nat} {s : List Nat × List (Nat × Nat)} {w : World} (hsl : s.1.length = n) (hb : ∀ i, nx s.1 i < 32) (ht : t < n) (hu : u < n) (hn5 : n ≤ 5) (hg : s.2.length ≤ 1000) (h : St (Of [.blk bG 36 [vg], .blk bR 22 [.slice (some ⟨gr, 0, none⟩) n cr], .own (.slice (some ⟨gr, 0, none⟩) n cr) 3 1 n (ints (nl s.1)), .own vg 71 3 (s.2).length (ints (flCX (s.2)))]) w w [.blk bG 36 [vg], .blk bR 22 [.slice (some ⟨gr, 0, none⟩) n cr], .own (.slice (some ⟨gr, 0, none⟩) n cr) 3 1 n (ints (nl s.1)), .own vg 71 3 (s.2).length (ints (flCX (s.2)))]) : Calls Try.prog 127 #[.int .i64 (u : Nat), .int .i64 (t : Nat), .pointer (some ⟨bR, 0, none⟩), .pointer (some ⟨bG, 0, none⟩)] w (Post (Of [.blk bG 36 [vg], .blk bR 22 [.slice (some ⟨gr, 0, none⟩) n cr], .own (.slice (some ⟨gr, 0, none⟩) n cr) 3 1 n (ints (nl s.1)), .own vg 71 3 (s.2).length (ints (flCX (s.2)))]) w fun v H => ∃ b, v = .tuple #[] ∧ H = [.blk bG 36 [b], .blk bR 22 [.slice (some ⟨gr, 0, none⟩) n cr], .own (.slice (some ⟨gr, 0, none⟩) n cr) 3 1 n (ints (nl (addE s (u, t)).1)), .own b 71 3 ((addE s (u, t)).2).length (ints (flCX ((addE s (u, t)).2)))]) := by
 have hnl := nl_length s.1
 have hbt := hb t
 have hbu := hb u
 refine enter (n := 22) (args := [.int .i64 (((u : Nat) : Int)), .int .i64 (((t : Nat) : Int)), .pointer (some ⟨bR, 0, none⟩), .pointer (some ⟨bG, 0, none⟩)]) Try.func127 rfl rfl (h) ?_
 refine Run.seq ?_
 refine Run.lastly [10] (by kernel_rfl) ?_
 refine DL.take (i := 0) (v := .slice (some ⟨gr, 0, none⟩) n cr) rfl (by kernel_rfl) (by kernel_rfl) (by kernel_rfl) (by kernel_rfl) (fun _ _ _ h => h) (Some'.weak (.take (.take (.take (.take (.nil _)))))) rfl (OpY.load1 Tone_22 rfl (Cells.blk (.tail _ (List.Mem.head _)) ⟨rfl, trivial⟩)) ?_
 refine DL.takeP (i := 1) (v := .int .i64 (((t : Nat) : Int))) rfl (by kernel_rfl) (by kernel_rfl) (by kernel_rfl) (fun _ _ _ h => h) rfl (fun _ => OpY.pure rfl) ?_
 refine DL.takeP (i := 2) (v := .pointer (some ⟨gr, t, none⟩)) rfl (by kernel_rfl) (by kernel_rfl) (by kernel_rfl) (fun _ _ _ h => h) rfl (fun _ => OpY.index (kk := t) Tsl_22 rfl rfl (by omega) (by omega) (by first | rfl | omega)) ?_
 refine DL.take (i := 3) (v := .int .i64 (ix (nl s.1) (t))) rfl (by kernel_rfl) (by kernel_rfl) (by kernel_rfl) (by kernel_rfl) (fun _ _ _ h => h) (Some'.weak (.take (.take (.take (.take (.nil _)))))) rfl (OpY.load1 Tone_3 rfl (Cells.own0 (.tail _ (.tail _ (List.Mem.head _))) (pre1 (by omega)))) ?_
 refine DL.take (i := 4) (v := .slice (some ⟨gr, 0, none⟩) n cr) rfl (by kernel_rfl) (by kernel_rfl) (by kernel_rfl) (by kernel_rfl) (fun _ _ _ h => h) (Some'.weak (.take (.take (.take (.take (.nil _)))))) rfl (OpY.load1 Tone_22 rfl (Cells.blk (.tail _ (List.Mem.head _)) ⟨rfl, trivial⟩)) ?_
 refine DL.takeP (i := 5) (v := .int .i64 (((u : Nat) : Int))) rfl (by kernel_rfl) (by kernel_rfl) (by kernel_rfl) (fun _ _ _ h => h) rfl (fun _ => OpY.pure rfl) ?_
 refine DL.takeP (i := 6) (v := .pointer (some ⟨gr, u, none⟩)) rfl (by kernel_rfl) (by kernel_rfl) (by kernel_rfl) (fun _ _ _ h => h) rfl (fun _ => OpY.index (kk := u) Tsl_22 rfl rfl (by omega) (by omega) (by first | rfl | omega)) ?_
 refine DL.take (i := 7) (v := .int .i64 (ix (nl s.1) (u))) rfl (by kernel_rfl) (by kernel_rfl) (by kernel_rfl) (by kernel_rfl) (fun _ _ _ h => h) (Some'.weak (.take (.take (.take (.take (.nil _)))))) rfl (OpY.load1 Tone_3 rfl (Cells.own0 (.tail _ (.tail _ (List.Mem.head _))) (pre1 (by omega)))) ?_
 refine DL.takeP (i := 8) (v := .int .i64 (((nx s.1 t ^^^ nx s.1 u : Nat) : Int))) rfl (by kernel_rfl) (by kernel_rfl) (by kernel_rfl) (fun _ _ _ h => h) rfl (fun _ => OpY.xorNat rfl rfl (ix_nl _ _) (ix_nl _ _) (by omega) (by omega)) ?_
 refine DL.takeP (i := 9) (v := .pointer (some ⟨gr, t, none⟩)) rfl (by kernel_rfl) (by kernel_rfl) (by kernel_rfl) (fun _ _ _ h => h) rfl (fun _ => OpY.index (kk := t) Tsl_22 rfl rfl (by omega) (by omega) (by first | rfl | omega)) ?_
 refine DL.step (i := 10) (by kernel_rfl) (by kernel_rfl) rfl rfl (OpStep.storeOwnInt (o := t) (a := ((nx s.1 t ^^^ nx s.1 u : Nat) : Int)) Tsize_3 rfl rfl (.there _ (.there _ (.here _))) (by omega) ?_)
 refine DL.done (by kernel_rfl) ?_
 refine Run.region ?_
 refine Run.y (vg) rfl (OpY.load1 Tone_36 rfl (Cells.blk (.head _) ⟨rfl, trivial⟩)) ?_
 refine Run.p (.int .i64 (((u : Nat) : Int))) rfl rfl ?_
 refine Run.p (.int .i64 (((t : Nat) : Int))) rfl rfl ?_
 refine Run.y (.agg #[.int .i64 9, .int .i64 (((u : Nat) : Int)), .int .i64 (((t : Nat) : Int))]) rfl (OpY.build (cs := [.int .i64 9, .int .i64 (((u : Nat) : Int)), .int .i64 (((t : Nat) : Int))]) (by kernel_rfl)) ?_
 refine Run.step rfl (OpStep.buildSlice (us := [.int .i64 9, .int .i64 (((u : Nat) : Int)), .int .i64 (((t : Nat) : Int))]) Tsl_36 (by decide) (by decide) ⟨rfl, [.int .i64 9, .int .i64 (((u : Nat) : Int)), .int .i64 (((t : Nat) : Int))], _, rfl, rfl, rfl, rfl⟩ rfl fun b1 => ?_)
 refine Run.step rfl (OpStep.append (H1 := [.own (.slice (some ⟨b1, 0, none⟩) 1 1) 71 3 1 ([.int .i64 9, .int .i64 (((u : Nat) : Int)), .int .i64 (((t : Nat) : Int))]), .blk bG 36 [vg], .blk bR 22 [.slice (some ⟨gr, 0, none⟩) n cr], .own (.slice (some ⟨gr, 0, none⟩) n cr) 3 1 n (ints ((nl s.1).set t (((nx s.1 t ^^^ nx s.1 u : Nat) : Int))))]) (H2 := []) (v := vg) (u := .slice (some ⟨b1, 0, none⟩) 1 1) (n := (s.2).length) (m := 1) (xs := ints (flCX (s.2))) (ys := [.int .i64 9, .int .i64 (((u : Nat) : Int)), .int .i64 (((t : Nat) : Int))]) Tsl_36 (by decide) rfl rfl rfl rfl (fun w hs => hs.slOwn (.head _)) (by simp [Value.oneCell']) (by omega) (by simp only [maxLen]; omega) fun av1 hnav1 => ?_)
 refine Run.weak (H' := [.own (.slice (some ⟨b1, 0, none⟩) 1 1) 71 3 1 ([.int .i64 9, .int .i64 (((u : Nat) : Int)), .int .i64 (((t : Nat) : Int))]), .blk bG 36 [vg], .blk bR 22 [.slice (some ⟨gr, 0, none⟩) n cr], .own (.slice (some ⟨gr, 0, none⟩) n cr) 3 1 n (ints ((nl s.1).set t (((nx s.1 t ^^^ nx s.1 u : Nat) : Int)))), .own av1 71 3 (((addE s (u, t)).2).length) (ints (flCX ((addE s (u, t)).2)))]) (Some'.weak (.take (.take (.take (.take (.takeEq (by rw [show (addE s (u, t)).2 = s.2 ++ [(u, t)] from rfl, ← ints_flCX]; simp) (.nil _))))))) ?_ ⟨_, _, rfl, fun _ => nofun, fun _ => nofun⟩
 refine Run.formOwn (.tail _ (.tail _ (.tail _ (.tail _ (List.Mem.head _))))) (fun A_av11 c_av11 hv hcapc_av11 hmaxc_av11 => ?_) (fun _ _ _ => ⟨nofun, nofun, nofun⟩)
 subst hv
 refine Run.step rfl (OpStep.storeAll (us := [.slice A_av11 (((addE s (u, t)).2).length) c_av11]) Tsize_36 rfl rfl rfl (.there _ (.here _)) rfl ?_)
 refine Run.done ?_
 refine Run.fin ?_
 refine ⟨.tuple #[], [.blk bG 36 [.slice A_av11 (((addE s (u, t)).2).length) c_av11], .blk bR 22 [.slice (some ⟨gr, 0, none⟩) n cr], .own (.slice (some ⟨gr, 0, none⟩) n cr) 3 1 n (ints (nl (addE s (u, t)).1)), .own (.slice A_av11 (((addE s (u, t)).2).length) c_av11) 71 3 (((addE s (u, t)).2).length) (ints (flCX ((addE s (u, t)).2)))], Out.none rfl, (Some'.weak (.skip (.take (.take (.takeEq (by first | rfl | (rw [nl_set]; rfl)) (.take (.nil _))))))), ?_⟩
 exact ⟨_, rfl, rfl⟩

set_option maxHeartbeats 2000000 in
set_option maxRecDepth 20000 in
theorem eliminated_spec {va : Value} {n : Nat} {r : List Nat} {w : World} (hl : r.length = n) (h1 : 1 ≤ n) (h5 : n ≤ 5) (hb : ∀ i, nx r i < 2 ^ n) (ha : Sl w va 1 n (ints (nl r))) : Calls Try.prog 98 #[.agg #[va]] w (Post No w fun v H => H = [.own v 71 3 (elW n r).length (ints (flCX (elW n r)))]) := by
 have hnl := nl_length r
 refine enter (n := 74) (args := [.agg #[va]]) Try.func98 rfl rfl (St.empty _ _) ?_
 refine Run.sr ?_
 refine Run.step rfl (OpStep.box (us := [va]) rfl fun b1 => ?_)
 refine Run.p (.slice none 0 0) rfl rfl ?_
 refine Run.dsr ?_
 refine Run.y (.pointer (some ⟨b1, 0, none⟩)) rfl (OpY.fieldAddr Tfo_28_0 rfl rfl) ?_
 refine Run.y (va) rfl (OpY.load1 Tone_22 rfl (Cells.blk (.head _) ⟨rfl, trivial⟩)) ?_
 refine Run.step rfl (OpStep.call (vs := [va]) (caps := []) Tcall_109 rfl rfl (fun w hs => CloneInt_spec (by omega) (by omega) (hs.sl ha)) ?_)
 rintro uo _ rfl
 show Run _ _ (putF _ _ _ uo) [.own uo 3 1 n (ints (nl r)), .blk b1 28 [va]]
 refine Run.step rfl (OpStep.buildSlice (us := []) Tsl_36 (by decide) (by decide) rfl rfl fun b2 => ?_)
 refine Run.step rfl (OpStep.alloc (zs := [.slice none 0 0]) Tzero_22 fun b3 => ?_)
 refine Run.step rfl (OpStep.alloc (zs := [.slice none 0 0]) Tzero_36 fun b4 => ?_)
 refine Run.formOwn (.tail _ (.tail _ (.tail _ (List.Mem.head _)))) (fun A_uo1 c_uo1 hv hcapc_uo1 hmaxc_uo1 => ?_) (fun _ _ _ => ⟨nofun, nofun, nofun⟩)
 subst hv
 refine Run.step rfl (OpStep.storeAll (us := [.slice A_uo1 n c_uo1]) Tsize_22 rfl rfl rfl (.there _ (.here _)) rfl ?_)
 refine Run.step rfl (OpStep.storeAll (us := [.slice (some ⟨b2, 0, none⟩) 0 0]) Tsize_36 rfl rfl rfl (.here _) rfl ?_)
 refine Run.dsr ?_
 refine Run.y (.func (.func 127) #[] #[.pointer (some ⟨b3, 0, none⟩), .pointer (some ⟨b4, 0, none⟩)]) rfl (OpY.makeFunc (caps := [.pointer (some ⟨b3, 0, none⟩), .pointer (some ⟨b4, 0, none⟩)]) rfl) ?_
 refine Run.p (.func (.func 127) #[] #[.pointer (some ⟨b3, 0, none⟩), .pointer (some ⟨b4, 0, none⟩)]) rfl rfl ?_
 refine Run.done ?_
 refine Run.seq ?_
 refine Run.seq ?_
 refine Run.openOwn (.tail _ (.tail _ (.tail _ (List.Mem.head _)))) (by omega) (fun gr cr hvgr hcapgr _ => ?_) (fun _ _ _ => ⟨nofun, nofun, nofun⟩)
 injection hvgr with hAgr _ hcgr; subst hAgr; subst hcgr
 refine Run.region ?_
 refine Run.y (.slice (some ⟨gr, 0, none⟩) n c_uo1) rfl (OpY.load1 Tone_22 rfl (Cells.blk (.tail _ (List.Mem.head _)) ⟨rfl, trivial⟩)) ?_
 refine Run.y (.int .i64 (((n : Nat) : Int))) rfl (OpY.len Tsl_22 rfl) ?_
 refine Run.p (.int .i64 0) rfl rfl ?_
 refine Run.done ?_
 refine Run.block ?_
 refine Run.loop (ι := Nat × Value) ([6, 7, 8, 16, 17, 18, 19, 20, 21, 22, 23, 24, 25, 26, 27, 28, 29, 30, 31, 32, 33, 34, 35, 36, 37, 38, 39, 40, 41, 42, 43, 44, 45, 46, 47, 48, 49, 50, 51, 52, 53, 54, 55, 56, 57, 58, 59, 60, 61, 62] ++ [63, 64, 65, 66, 67, 68, 69, 70, 71, 72]) (fun ⟨k, vo⟩ => [(16, .int .i64 (((k : Nat) : Int)))]) (fun ⟨k, vo⟩ => [.own vo 71 3 (((elQ n r k).2).length) (ints (flCX ((elQ n r k).2))), .own (.slice (some ⟨gr, 0, none⟩) n c_uo1) 3 1 n (ints (nl (elQ n r k).1)), .blk b4 36 [vo], .blk b3 22 [.slice (some ⟨gr, 0, none⟩) n c_uo1], .blk b1 28 [va]]) (fun ⟨k, vo⟩ => k ≤ n) (fun ⟨k, vo⟩ => n - k) (0, .slice (some ⟨b2, 0, none⟩) 0 0) ?_ ?_ ?_ ?_
 ·exact Nat.zero_le _
 ·exact ⟨rfl, trivial⟩
 ·exact ((Weak.selF [2, 2, 0, 0, 0]).trans (Some'.weak (.takeEq (by first | rfl | (rw [hQ]; done) | (rw [hQ]; rfl) | simp [elQ, flCX, ints]) (.takeEq (by first | rfl | (rw [hQ]; done) | (rw [hQ]; rfl) | simp [elQ, flCX, ints]) (.takeEq (by first | rfl | (rw [hQ]; done) | (rw [hQ]; rfl) | simp [elQ, flCX, ints]) (.take (.take (.nil _))))))))
 ·rintro ⟨k, vo⟩ fr hinv
  show Run _ _ (over _ _ [(16, .int .i64 (((k : Nat) : Int)))] fr) [.own vo 71 3 (((elQ n r k).2).length) (ints (flCX ((elQ n r k).2))), .own (.slice (some ⟨gr, 0, none⟩) n c_uo1) 3 1 n (ints (nl (elQ n r k).1)), .blk b4 36 [vo], .blk b3 22 [.slice (some ⟨gr, 0, none⟩) n c_uo1], .blk b1 28 [va]]
  try dsimp only at hinv
  refine Run.sr ?_
  refine Run.p (.bool (decide ((((k : Nat) : Int)) < (((n : Nat) : Int))))) rfl rfl ?_
  refine Run.done ?_
  refine Run.seq ?_
  refine Run.cond (b := decide ((((k : Nat) : Int)) < (((n : Nat) : Int)))) rfl (fun h17 => ?_) (fun h17 => ?_)
  ·have p17 := h17; try simp only [bs] at p17
   have hkn : k < n := by omega
   have hf1 := (elQ_ok (m := r) k (by omega)).facts hl hb h5
   have hlen1 := elQ_len n r k
   have hm50 : k * (2 * n) ≤ 50 := Nat.le_trans (Nat.mul_le_mul (show k ≤ 5 by omega) (Nat.mul_le_mul (Nat.le_refl 2) h5)) (by decide)
   refine Run.skip ?_
   refine Run.seq ?_
   refine Run.block ?_
   refine Run.sr ?_
   refine Run.p (.int .i64 (((k : Nat) : Int))) rfl rfl ?_
   refine Run.p (.int .i64 (((k : Nat) : Int))) rfl rfl ?_
   refine Run.done ?_
   refine Run.seq ?_
   refine Run.sr ?_
   refine Run.p (.int .i64 (((k : Nat) : Int))) rfl rfl ?_
   refine Run.y (.int .i64 (((k + 1 : Nat) : Int))) rfl (OpY.add rfl rfl (by omega) (by omega) (by omega)) ?_
   refine Run.p (.int .i64 (((k + 1 : Nat) : Int))) rfl rfl ?_
   refine Run.done ?_
   refine Run.block ?_
   have hS0 : elS k (elQ n r k) (k + 1) = elQ n r k := elS_low _ (Nat.le_refl _)
   refine Run.loop (ι := Nat × Value) [7, 21, 22, 23, 24, 25, 26, 27, 28, 29, 30, 31, 32, 33, 34, 35, 36, 37, 38, 39, 40, 41, 42, 43, 44, 45, 46, 47, 48] (fun ⟨i, vo⟩ => [(7, .int .i64 (((i : Nat) : Int)))]) (fun ⟨i, vo⟩ => [.own vo 71 3 (((elS k (elQ n r k) i).2).length) (ints (flCX ((elS k (elQ n r k) i).2))), .own (.slice (some ⟨gr, 0, none⟩) n c_uo1) 3 1 n (ints (nl (elS k (elQ n r k) i).1)), .blk b4 36 [vo], .blk b3 22 [.slice (some ⟨gr, 0, none⟩) n c_uo1], .blk b1 28 [va]]) (fun ⟨i, vo⟩ => k + 1 ≤ i ∧ i ≤ n) (fun ⟨i, vo⟩ => n - i) (k + 1, vo) ?_ ?_ ?_ ?_
   ·exact ⟨Nat.le_refl _, (show k + 1 ≤ n by omega)⟩
   ·exact ⟨rfl, trivial⟩
   ·exact ((Weak.refl _).trans (Some'.weak (.takeEq (by first | rfl | (rw [hS0]; done) | (rw [hS0]; rfl) | (rw [hX]; done) | (rw [hX]; rfl)) (.takeEq (by first | rfl | (rw [hS0]; done) | (rw [hS0]; rfl) | (rw [hX]; done) | (rw [hX]; rfl)) (.take (.take (.take (.nil _))))))))
   ·rintro ⟨i, vo⟩ fr hinv
    show Run _ _ (over _ _ [(7, .int .i64 (((i : Nat) : Int)))] fr) [.own vo 71 3 (((elS k (elQ n r k) i).2).length) (ints (flCX ((elS k (elQ n r k) i).2))), .own (.slice (some ⟨gr, 0, none⟩) n c_uo1) 3 1 n (ints (nl (elS k (elQ n r k) i).1)), .blk b4 36 [vo], .blk b3 22 [.slice (some ⟨gr, 0, none⟩) n c_uo1], .blk b1 28 [va]]
    try dsimp only at hinv
    refine Run.seq ?_
    refine Run.seq ?_
    refine Run.cut (ι := Unit) [21, 22, 23, 24, 25, 26, 27, 28, 29, 30, 31, 32, 33, 34] (fun u0 => [(34, .bool (decide (i < n) && !((nx (elS k (elQ n r k) i).1 k).testBit k)))]) (fun u0 => [.own vo 71 3 (((elS k (elQ n r k) i).2).length) (ints (flCX ((elS k (elQ n r k) i).2))), .own (.slice (some ⟨gr, 0, none⟩) n c_uo1) 3 1 n (ints (nl (elS k (elQ n r k) i).1)), .blk b4 36 [vo], .blk b3 22 [.slice (some ⟨gr, 0, none⟩) n c_uo1], .blk b1 28 [va]]) (fun u0 => True) ?_ ?_
    ·refine Run.region ?_
     refine Run.p (.int .i64 (((i : Nat) : Int))) rfl rfl ?_
     refine Run.y (.slice (some ⟨gr, 0, none⟩) n c_uo1) rfl (OpY.load1 Tone_22 rfl (Cells.blk (.tail _ (.tail _ (.tail _ (List.Mem.head _)))) ⟨rfl, trivial⟩)) ?_
     refine Run.y (.int .i64 (((n : Nat) : Int))) rfl (OpY.len Tsl_22 rfl) ?_
     refine Run.p (.bool (decide ((((i : Nat) : Int)) < (((n : Nat) : Int))))) rfl rfl ?_
     rcases Bool.eq_false_or_eq_true (decide ((((i : Nat) : Int)) < (((n : Nat) : Int)))) with h25 | h25
     ·refine Run.q (v := .bool true) rfl (OpQ.y (OpY.moveB rfl h25)) ?_
      have p25 := h25; try simp only [bs] at p25
      have hin : i < n := by omega
      have hf2 := (elS_ok (k := k) (by omega) (elQ_ok (m := r) k (by omega)) i (by omega)).facts hl hb h5
      have hlen2 := elS_len k (elQ n r k) i
      refine Run.y (.slice (some ⟨gr, 0, none⟩) n c_uo1) rfl (OpY.load1 Tone_22 rfl (Cells.blk (.tail _ (.tail _ (.tail _ (List.Mem.head _)))) ⟨rfl, trivial⟩)) ?_
      refine Run.p (.int .i64 (((k : Nat) : Int))) rfl rfl ?_
      refine Run.y (.pointer (some ⟨gr, k, none⟩)) rfl (OpY.index (kk := k) Tsl_22 rfl rfl (by omega) (by omega) (by first | rfl | omega)) ?_
      refine Run.y (.int .i64 (ix (nl (elS k (elQ n r k) i).1) (k))) rfl (OpY.load1 Tone_3 rfl (Cells.own0 (.tail _ (List.Mem.head _)) (pre1 (by first | omega | (simp; omega))))) ?_
      refine Run.p (.int .i64 (((k : Nat) : Int))) rfl rfl ?_
      refine Run.y (.int .i64 ((ix (nl (elS k (elQ n r k) i).1) (k)) >>> k)) rfl (OpY.shr rfl rfl (by first | rfl | omega) (by omega)) ?_
      refine Run.y (.int .i64 (((ix (nl (elS k (elQ n r k) i).1) (k)) >>> k) % 2)) rfl (OpY.and1 rfl rfl) ?_
      refine Run.p (.bool ((((ix (nl (elS k (elQ n r k) i).1) (k)) >>> k) % 2) == 0)) rfl rfl ?_
      refine Run.p (.bool ((((ix (nl (elS k (elQ n r k) i).1) (k)) >>> k) % 2) == 0)) rfl rfl ?_
      refine Run.done ?_
      refine Run.goal ⟨(by repeat (first | exact Same.refl _ _ | refine Same.put rfl ?_ | refine Same.over rfl rfl ?_)), (), ?_, ?_, ?_⟩
      ·trivial
      ·exact ⟨(by (show Value.bool _ = Value.bool _; congr 1; first | (rw [bz0, decide_eq_true hin, Bool.true_and]; done) | (rw [decide_eq_false hin]; rfl))), trivial⟩
      ·exact (Some'.weak (.takeEq (by first | rfl | simp) (.takeEq (by first | rfl | simp) (.take (.take (.take (.nil _)))))))
     ·refine Run.q (v := .bool false) rfl (OpQ.y (OpY.moveB rfl h25)) ?_
      have p25 := h25; try simp only [bs] at p25
      have hin : ¬ i < n := by omega
      refine Run.pass rfl ?_
      refine Run.pass rfl ?_
      refine Run.pass rfl ?_
      refine Run.pass rfl ?_
      refine Run.pass rfl ?_
      refine Run.pass rfl ?_
      refine Run.pass rfl ?_
      refine Run.pass rfl ?_
      refine Run.p (.bool false) rfl rfl ?_
      refine Run.done ?_
      refine Run.goal ⟨(by repeat (first | exact Same.refl _ _ | refine Same.put rfl ?_ | refine Same.over rfl rfl ?_)), (), ?_, ?_, ?_⟩
      ·trivial
      ·exact ⟨(by (show Value.bool _ = Value.bool _; congr 1; first | (rw [bz0, decide_eq_true hin, Bool.true_and]; done) | (rw [decide_eq_false hin]; rfl))), trivial⟩
      ·exact (Some'.weak (.takeEq (by first | rfl | simp) (.takeEq (by first | rfl | simp) (.take (.take (.take (.nil _)))))))
    ·rintro u0 fr hcut
     show Run _ _ (over _ _ [(34, .bool (decide (i < n) && !((nx (elS k (elQ n r k) i).1 k).testBit k)))] fr) [.own vo 71 3 (((elS k (elQ n r k) i).2).length) (ints (flCX ((elS k (elQ n r k) i).2))), .own (.slice (some ⟨gr, 0, none⟩) n c_uo1) 3 1 n (ints (nl (elS k (elQ n r k) i).1)), .blk b4 36 [vo], .blk b3 22 [.slice (some ⟨gr, 0, none⟩) n c_uo1], .blk b1 28 [va]]
     refine Run.cond (b := decide (i < n) && !((nx (elS k (elQ n r k) i).1 k).testBit k)) rfl (fun h34 => ?_) (fun h34 => ?_)
     ·have p34 := h34; try simp only [bs] at p34
      have hin : i < n := of_decide_eq_true (Bool.and_eq_true_iff.1 h34).1
      have hb0 : (nx (elS k (elQ n r k) i).1 k).testBit k = false := by have h := (Bool.and_eq_true_iff.1 h34).2; simpa using h
      have hf2 := (elS_ok (k := k) (by omega) (elQ_ok (m := r) k (by omega)) i (by omega)).facts hl hb h5
      have hlen2 := elS_len k (elQ n r k) i
      refine Run.skip ?_
      refine Run.seq ?_
      refine Run.block ?_
      refine Run.sr ?_
      refine Run.y (.slice (some ⟨gr, 0, none⟩) n c_uo1) rfl (OpY.load1 Tone_22 rfl (Cells.blk (.tail _ (.tail _ (.tail _ (List.Mem.head _)))) ⟨rfl, trivial⟩)) ?_
      refine Run.p (.int .i64 (((i : Nat) : Int))) rfl rfl ?_
      refine Run.y (.pointer (some ⟨gr, i, none⟩)) rfl (OpY.index (kk := i) Tsl_22 rfl rfl (by omega) (by omega) (by first | rfl | omega)) ?_
      refine Run.y (.int .i64 (ix (nl (elS k (elQ n r k) i).1) (i))) rfl (OpY.load1 Tone_3 rfl (Cells.own0 (.tail _ (List.Mem.head _)) (pre1 (by first | omega | (simp; omega))))) ?_
      refine Run.p (.int .i64 (((k : Nat) : Int))) rfl rfl ?_
      refine Run.y (.int .i64 ((ix (nl (elS k (elQ n r k) i).1) (i)) >>> k)) rfl (OpY.shr rfl rfl (by first | rfl | omega) (by omega)) ?_
      refine Run.y (.int .i64 (((ix (nl (elS k (elQ n r k) i).1) (i)) >>> k) % 2)) rfl (OpY.and1 rfl rfl) ?_
      refine Run.p (.bool ((((ix (nl (elS k (elQ n r k) i).1) (i)) >>> k) % 2) == 1)) rfl rfl ?_
      refine Run.done ?_
      refine Run.cond (b := (((ix (nl (elS k (elQ n r k) i).1) (i)) >>> k) % 2) == 1) rfl (fun h44 => ?_) (fun h44 => ?_)
      ·have p44 := h44; try simp only [bs] at p44
       have hX := elS_add (by omega) hb0 (bt1 p44)
       refine Run.region ?_
       refine Run.p (.func (.func 127) #[] #[.pointer (some ⟨b3, 0, none⟩), .pointer (some ⟨b4, 0, none⟩)]) rfl rfl ?_
       refine Run.p (.int .i64 (((i : Nat) : Int))) rfl rfl ?_
       refine Run.p (.int .i64 (((k : Nat) : Int))) rfl rfl ?_
       refine Run.step rfl (OpStep.callM (H1 := [.blk b4 36 [vo], .blk b3 22 [.slice (some ⟨gr, 0, none⟩) n c_uo1], .own (.slice (some ⟨gr, 0, none⟩) n c_uo1) 3 1 n (ints (nl (elS k (elQ n r k) i).1)), .own vo 71 3 (((elS k (elQ n r k) i).2).length) (ints (flCX ((elS k (elQ n r k) i).2)))]) (H2 := [.blk b1 28 [va]]) (vs := [.int .i64 (((i : Nat) : Int)), .int .i64 (((k : Nat) : Int)), .pointer (some ⟨b3, 0, none⟩), .pointer (some ⟨b4, 0, none⟩)]) (caps := [.pointer (some ⟨b3, 0, none⟩), .pointer (some ⟨b4, 0, none⟩)]) Tcall_127 rfl rfl (Weak.selF [2, 2, 1, 0]) (fun w hs => elclo_spec (s := elS k (elQ n r k) i) hf2.1 hf2.2.2 (by omega) (by omega) h5 (by omega) (hs.sub (List.sublist_append_left _ _)).self) ?_)
       rintro _ _ ⟨rb1, rfl, rfl⟩
       show Run _ _ (putF _ _ _ (.tuple #[])) [.blk b4 36 [rb1], .blk b3 22 [.slice (some ⟨gr, 0, none⟩) n c_uo1], .own (.slice (some ⟨gr, 0, none⟩) n c_uo1) 3 1 n (ints (nl (addE (elS k (elQ n r k) i) (i, k)).1)), .own rb1 71 3 (((addE (elS k (elQ n r k) i) (i, k)).2).length) (ints (flCX ((addE (elS k (elQ n r k) i) (i, k)).2))), .blk b1 28 [va]]
       refine Run.done ?_
       refine Run.blockEnd ?_
       refine Run.region ?_
       refine Run.p (.int .i64 (((i : Nat) : Int))) rfl rfl ?_
       refine Run.y (.int .i64 (((i + 1 : Nat) : Int))) rfl (OpY.add rfl rfl (by omega) (by omega) (by omega)) ?_
       refine Run.p (.int .i64 (((i + 1 : Nat) : Int))) rfl rfl ?_
       refine Run.done ?_
       refine Run.goal ⟨(by repeat (first | exact Same.refl _ _ | refine Same.put rfl ?_ | refine Same.over rfl rfl ?_)), (i + 1, rb1), ?_, ?_, ?_, ?_⟩
       ·exact ⟨by omega, by omega⟩
       ·show n - (i + 1) < n - i; omega
       ·exact ⟨(by first | rfl | (congr 1; omega) | simp), trivial⟩
       ·exact ((Weak.selF [3, 2, 0, 0, 0]).trans (Some'.weak (.takeEq (by first | rfl | (rw [hS0]; done) | (rw [hS0]; rfl) | (rw [hX]; done) | (rw [hX]; rfl)) (.takeEq (by first | rfl | (rw [hS0]; done) | (rw [hS0]; rfl) | (rw [hX]; done) | (rw [hX]; rfl)) (.takeEq (by first | rfl | (rw [hS0]; done) | (rw [hS0]; rfl) | (rw [hX]; done) | (rw [hX]; rfl)) (.take (.take (.nil _))))))))
      ·have p44 := h44; try simp only [bs] at p44
       have hX := elS_skip (s := elQ n r k) (bn1 p44)
       refine Run.skip ?_
       refine Run.blockEnd ?_
       refine Run.region ?_
       refine Run.p (.int .i64 (((i : Nat) : Int))) rfl rfl ?_
       refine Run.y (.int .i64 (((i + 1 : Nat) : Int))) rfl (OpY.add rfl rfl (by omega) (by omega) (by omega)) ?_
       refine Run.p (.int .i64 (((i + 1 : Nat) : Int))) rfl rfl ?_
       refine Run.done ?_
       refine Run.goal ⟨(by repeat (first | exact Same.refl _ _ | refine Same.put rfl ?_ | refine Same.over rfl rfl ?_)), (i + 1, vo), ?_, ?_, ?_, ?_⟩
       ·exact ⟨by omega, by omega⟩
       ·show n - (i + 1) < n - i; omega
       ·exact ⟨(by first | rfl | (congr 1; omega) | simp), trivial⟩
       ·exact ((Weak.refl _).trans (Some'.weak (.takeEq (by first | rfl | (rw [hS0]; done) | (rw [hS0]; rfl) | (rw [hX]; done) | (rw [hX]; rfl)) (.takeEq (by first | rfl | (rw [hS0]; done) | (rw [hS0]; rfl) | (rw [hX]; done) | (rw [hX]; rfl)) (.take (.take (.take (.nil _))))))))
     ·have p34 := h34; try simp only [bs] at p34
      have hEx : elS k (elQ n r k) n = elS k (elQ n r k) i := by
       by_cases hin : i < n
       ·have hb0 : (nx (elS k (elQ n r k) i).1 k).testBit k = true := by rw [decide_eq_true hin, Bool.true_and] at h34; simpa using h34
        have h := elS_stop hb0 (n - i); rwa [show i + (n - i) = n by omega] at h
       ·rw [show n = i by omega]
      refine Run.exit rfl ?_
      refine Run.sr ?_
      refine Run.y (.slice (some ⟨gr, 0, none⟩) n c_uo1) rfl (OpY.load1 Tone_22 rfl (Cells.blk (.tail _ (.tail _ (.tail _ (List.Mem.head _)))) ⟨rfl, trivial⟩)) ?_
      refine Run.y (.int .i64 (((n : Nat) : Int))) rfl (OpY.len Tsl_22 rfl) ?_
      refine Run.p (.int .i64 0) rfl rfl ?_
      refine Run.done ?_
      refine Run.block ?_
      have hC0 : elC k (elS k (elQ n r k) n) 0 = elS k (elQ n r k) i := hEx
      refine Run.loop (ι := Nat × Value) [8, 51, 52, 53, 54, 55, 56, 57, 58, 59, 60, 61, 62, 63, 64, 65, 66, 67, 68, 69, 70, 71] (fun ⟨j, vo⟩ => [(51, .int .i64 (((j : Nat) : Int)))]) (fun ⟨j, vo⟩ => [.own vo 71 3 (((elC k (elS k (elQ n r k) n) j).2).length) (ints (flCX ((elC k (elS k (elQ n r k) n) j).2))), .own (.slice (some ⟨gr, 0, none⟩) n c_uo1) 3 1 n (ints (nl (elC k (elS k (elQ n r k) n) j).1)), .blk b4 36 [vo], .blk b3 22 [.slice (some ⟨gr, 0, none⟩) n c_uo1], .blk b1 28 [va]]) (fun ⟨j, vo⟩ => j ≤ n) (fun ⟨j, vo⟩ => n - j) (0, vo) ?_ ?_ ?_ ?_
      ·exact Nat.zero_le _
      ·exact ⟨rfl, trivial⟩
      ·exact ((Weak.refl _).trans (Some'.weak (.takeEq (by first | rfl | (rw [hC0]; done) | (rw [hC0]; rfl) | (rw [hX]; done) | (rw [hX]; rfl)) (.takeEq (by first | rfl | (rw [hC0]; done) | (rw [hC0]; rfl) | (rw [hX]; done) | (rw [hX]; rfl)) (.take (.take (.take (.nil _))))))))
      ·rintro ⟨j, vo⟩ fr hinv
       show Run _ _ (over _ _ [(51, .int .i64 (((j : Nat) : Int)))] fr) [.own vo 71 3 (((elC k (elS k (elQ n r k) n) j).2).length) (ints (flCX ((elC k (elS k (elQ n r k) n) j).2))), .own (.slice (some ⟨gr, 0, none⟩) n c_uo1) 3 1 n (ints (nl (elC k (elS k (elQ n r k) n) j).1)), .blk b4 36 [vo], .blk b3 22 [.slice (some ⟨gr, 0, none⟩) n c_uo1], .blk b1 28 [va]]
       try dsimp only at hinv
       refine Run.sr ?_
       refine Run.p (.bool (decide ((((j : Nat) : Int)) < (((n : Nat) : Int))))) rfl rfl ?_
       refine Run.done ?_
       refine Run.seq ?_
       refine Run.cond (b := decide ((((j : Nat) : Int)) < (((n : Nat) : Int)))) rfl (fun h52 => ?_) (fun h52 => ?_)
       ·have p52 := h52; try simp only [bs] at p52
        have hjn : j < n := by omega
        have hf3 := (elC_ok (k := k) (by omega) (elS_ok (k := k) (by omega) (elQ_ok (m := r) k (by omega)) n (Nat.le_refl n)) j (by omega)).facts hl hb h5
        have hlen3 := elC_len k (elS k (elQ n r k) n) j
        have hlen4 := elS_len k (elQ n r k) n
        refine Run.skip ?_
        refine Run.seq ?_
        refine Run.block ?_
        refine Run.sr ?_
        refine Run.p (.int .i64 (((j : Nat) : Int))) rfl rfl ?_
        refine Run.p (.int .i64 (((j : Nat) : Int))) rfl rfl ?_
        refine Run.dsr ?_
        refine Run.p (.int .i64 (((j : Nat) : Int))) rfl rfl ?_
        refine Run.p (.int .i64 (((k : Nat) : Int))) rfl rfl ?_
        refine Run.p (.bool ((((j : Nat) : Int)) != (((k : Nat) : Int)))) rfl rfl ?_
        rcases Bool.eq_false_or_eq_true ((((j : Nat) : Int)) != (((k : Nat) : Int))) with h57 | h57
        ·refine Run.q (v := .bool true) rfl (OpQ.y (OpY.moveB rfl h57)) ?_
         have p57 := h57; try simp only [bs] at p57
         have hjk : j ≠ k := by omega
         refine Run.y (.slice (some ⟨gr, 0, none⟩) n c_uo1) rfl (OpY.load1 Tone_22 rfl (Cells.blk (.tail _ (.tail _ (.tail _ (List.Mem.head _)))) ⟨rfl, trivial⟩)) ?_
         refine Run.p (.int .i64 (((j : Nat) : Int))) rfl rfl ?_
         refine Run.y (.pointer (some ⟨gr, j, none⟩)) rfl (OpY.index (kk := j) Tsl_22 rfl rfl (by omega) (by omega) (by first | rfl | omega)) ?_
         refine Run.y (.int .i64 (ix (nl (elC k (elS k (elQ n r k) n) j).1) (j))) rfl (OpY.load1 Tone_3 rfl (Cells.own0 (.tail _ (List.Mem.head _)) (pre1 (by first | omega | (simp; omega))))) ?_
         refine Run.p (.int .i64 (((k : Nat) : Int))) rfl rfl ?_
         refine Run.y (.int .i64 ((ix (nl (elC k (elS k (elQ n r k) n) j).1) (j)) >>> k)) rfl (OpY.shr rfl rfl (by first | rfl | omega) (by omega)) ?_
         refine Run.y (.int .i64 (((ix (nl (elC k (elS k (elQ n r k) n) j).1) (j)) >>> k) % 2)) rfl (OpY.and1 rfl rfl) ?_
         refine Run.p (.bool ((((ix (nl (elC k (elS k (elQ n r k) n) j).1) (j)) >>> k) % 2) == 1)) rfl rfl ?_
         refine Run.p (.bool ((((ix (nl (elC k (elS k (elQ n r k) n) j).1) (j)) >>> k) % 2) == 1)) rfl rfl ?_
         refine Run.done ?_
         refine Run.cond (b := (((ix (nl (elC k (elS k (elQ n r k) n) j).1) (j)) >>> k) % 2) == 1) rfl (fun h66 => ?_) (fun h66 => ?_)
         ·have p66 := h66; try simp only [bs] at p66
          have hX := elC_add hjk (bt1 p66)
          refine Run.region ?_
          refine Run.p (.func (.func 127) #[] #[.pointer (some ⟨b3, 0, none⟩), .pointer (some ⟨b4, 0, none⟩)]) rfl rfl ?_
          refine Run.p (.int .i64 (((k : Nat) : Int))) rfl rfl ?_
          refine Run.p (.int .i64 (((j : Nat) : Int))) rfl rfl ?_
          refine Run.step rfl (OpStep.callM (H1 := [.blk b4 36 [vo], .blk b3 22 [.slice (some ⟨gr, 0, none⟩) n c_uo1], .own (.slice (some ⟨gr, 0, none⟩) n c_uo1) 3 1 n (ints (nl (elC k (elS k (elQ n r k) n) j).1)), .own vo 71 3 (((elC k (elS k (elQ n r k) n) j).2).length) (ints (flCX ((elC k (elS k (elQ n r k) n) j).2)))]) (H2 := [.blk b1 28 [va]]) (vs := [.int .i64 (((k : Nat) : Int)), .int .i64 (((j : Nat) : Int)), .pointer (some ⟨b3, 0, none⟩), .pointer (some ⟨b4, 0, none⟩)]) (caps := [.pointer (some ⟨b3, 0, none⟩), .pointer (some ⟨b4, 0, none⟩)]) Tcall_127 rfl rfl (Weak.selF [2, 2, 1, 0]) (fun w hs => elclo_spec (s := elC k (elS k (elQ n r k) n) j) hf3.1 hf3.2.2 (by omega) (by omega) h5 (by omega) (hs.sub (List.sublist_append_left _ _)).self) ?_)
          rintro _ _ ⟨rb2, rfl, rfl⟩
          show Run _ _ (putF _ _ _ (.tuple #[])) [.blk b4 36 [rb2], .blk b3 22 [.slice (some ⟨gr, 0, none⟩) n c_uo1], .own (.slice (some ⟨gr, 0, none⟩) n c_uo1) 3 1 n (ints (nl (addE (elC k (elS k (elQ n r k) n) j) (k, j)).1)), .own rb2 71 3 (((addE (elC k (elS k (elQ n r k) n) j) (k, j)).2).length) (ints (flCX ((addE (elC k (elS k (elQ n r k) n) j) (k, j)).2))), .blk b1 28 [va]]
          refine Run.done ?_
          refine Run.blockEnd ?_
          refine Run.region ?_
          refine Run.y (.int .i64 (((j + 1 : Nat) : Int))) rfl (OpY.add rfl rfl (by omega) (by omega) (by omega)) ?_
          refine Run.p (.int .i64 (((j + 1 : Nat) : Int))) rfl rfl ?_
          refine Run.done ?_
          refine Run.goal ⟨(by repeat (first | exact Same.refl _ _ | refine Same.put rfl ?_ | refine Same.over rfl rfl ?_)), (j + 1, rb2), ?_, ?_, ?_, ?_⟩
          ·exact (show j + 1 ≤ n by omega)
          ·show n - (j + 1) < n - j; omega
          ·exact ⟨(by first | rfl | (congr 1; omega) | simp), trivial⟩
          ·exact ((Weak.selF [3, 2, 0, 0, 0]).trans (Some'.weak (.takeEq (by first | rfl | (rw [hC0]; done) | (rw [hC0]; rfl) | (rw [hX]; done) | (rw [hX]; rfl)) (.takeEq (by first | rfl | (rw [hC0]; done) | (rw [hC0]; rfl) | (rw [hX]; done) | (rw [hX]; rfl)) (.takeEq (by first | rfl | (rw [hC0]; done) | (rw [hC0]; rfl) | (rw [hX]; done) | (rw [hX]; rfl)) (.take (.take (.nil _))))))))
         ·have p66 := h66; try simp only [bs] at p66
          have hX := elC_skip (s := elS k (elQ n r k) n) (k := k) (j := j) (fun h => absurd h.2 (by rw [bn1 p66]; decide))
          refine Run.skip ?_
          refine Run.blockEnd ?_
          refine Run.region ?_
          refine Run.y (.int .i64 (((j + 1 : Nat) : Int))) rfl (OpY.add rfl rfl (by omega) (by omega) (by omega)) ?_
          refine Run.p (.int .i64 (((j + 1 : Nat) : Int))) rfl rfl ?_
          refine Run.done ?_
          refine Run.goal ⟨(by repeat (first | exact Same.refl _ _ | refine Same.put rfl ?_ | refine Same.over rfl rfl ?_)), (j + 1, vo), ?_, ?_, ?_, ?_⟩
          ·exact (show j + 1 ≤ n by omega)
          ·show n - (j + 1) < n - j; omega
          ·exact ⟨(by first | rfl | (congr 1; omega) | simp), trivial⟩
          ·exact ((Weak.refl _).trans (Some'.weak (.takeEq (by first | rfl | (rw [hC0]; done) | (rw [hC0]; rfl) | (rw [hX]; done) | (rw [hX]; rfl)) (.takeEq (by first | rfl | (rw [hC0]; done) | (rw [hC0]; rfl) | (rw [hX]; done) | (rw [hX]; rfl)) (.take (.take (.take (.nil _))))))))
        ·refine Run.q (v := .bool false) rfl (OpQ.y (OpY.moveB rfl h57)) ?_
         have p57 := h57; try simp only [bs] at p57
         have hX := elC_skip (s := elS k (elQ n r k) n) (k := k) (j := j) (fun h => h.1 (by omega))
         refine Run.pass rfl ?_
         refine Run.pass rfl ?_
         refine Run.pass rfl ?_
         refine Run.pass rfl ?_
         refine Run.pass rfl ?_
         refine Run.pass rfl ?_
         refine Run.pass rfl ?_
         refine Run.pass rfl ?_
         refine Run.p (.bool false) rfl rfl ?_
         refine Run.done ?_
         refine Run.cond (b := false) rfl (fun h => nomatch h) (fun _ => ?_)
         refine Run.skip ?_
         refine Run.blockEnd ?_
         refine Run.region ?_
         refine Run.y (.int .i64 (((j + 1 : Nat) : Int))) rfl (OpY.add rfl rfl (by omega) (by omega) (by omega)) ?_
         refine Run.p (.int .i64 (((j + 1 : Nat) : Int))) rfl rfl ?_
         refine Run.done ?_
         refine Run.goal ⟨(by repeat (first | exact Same.refl _ _ | refine Same.put rfl ?_ | refine Same.over rfl rfl ?_)), (j + 1, vo), ?_, ?_, ?_, ?_⟩
         ·exact (show j + 1 ≤ n by omega)
         ·show n - (j + 1) < n - j; omega
         ·exact ⟨(by first | rfl | (congr 1; omega) | simp), trivial⟩
         ·exact ((Weak.refl _).trans (Some'.weak (.takeEq (by first | rfl | (rw [hC0]; done) | (rw [hC0]; rfl) | (rw [hX]; done) | (rw [hX]; rfl)) (.takeEq (by first | rfl | (rw [hC0]; done) | (rw [hC0]; rfl) | (rw [hX]; done) | (rw [hX]; rfl)) (.take (.take (.take (.nil _))))))))
       ·have p52 := h52; try simp only [bs] at p52
        have hjn : j = n := by omega
        have hQ : elQ n r (k + 1) = elC k (elS k (elQ n r k) n) j := by rw [hjn]; rfl
        refine Run.exit rfl ?_
        refine Run.blockEnd ?_
        refine Run.region ?_
        refine Run.y (.int .i64 (((k + 1 : Nat) : Int))) rfl (OpY.add rfl rfl (by omega) (by omega) (by omega)) ?_
        refine Run.p (.int .i64 (((k + 1 : Nat) : Int))) rfl rfl ?_
        refine Run.done ?_
        refine Run.goal ⟨(by repeat (first | exact Same.refl _ _ | refine Same.put rfl ?_ | refine Same.over rfl rfl ?_)), (k + 1, vo), ?_, ?_, ?_, ?_⟩
        ·exact (show k + 1 ≤ n by omega)
        ·show n - (k + 1) < n - k; omega
        ·exact ⟨(by first | rfl | (congr 1; omega) | simp), trivial⟩
        ·exact ((Weak.refl _).trans (Some'.weak (.takeEq (by first | rfl | (rw [hQ]; done) | (rw [hQ]; rfl) | simp [elQ, flCX, ints]) (.takeEq (by first | rfl | (rw [hQ]; done) | (rw [hQ]; rfl) | simp [elQ, flCX, ints]) (.take (.take (.take (.nil _))))))))
  ·have p17 := h17; try simp only [bs] at p17
   have hkn : k = n := by omega
   have hW : elW n r = (elQ n r k).2 := by rw [hkn]; rfl
   refine Run.exit rfl ?_
   refine Run.sr ?_
   refine Run.y (vo) rfl (OpY.load1 Tone_36 rfl (Cells.blk (.tail _ (.tail _ (List.Mem.head _))) ⟨rfl, trivial⟩)) ?_
   refine Run.p (vo) rfl rfl ?_
   refine Run.done ?_
   refine Run.ret ?_
   refine ⟨vo, [.own vo 71 3 ((elW n r).length) (ints (flCX (elW n r)))], Out.one rfl rfl, (Some'.weak (.takeEq (by rw [hW]) (.nil _))), ?_⟩
   rfl

theorem l12CX_n {va : Value} {l : List Nat} {a b n : Nat} {w : World} (hl : l.length = n) (h5 : n ≤ 5) (ha5 : a < n) (hb5 : b < n) (hb : ∀ i, nx l i < 32) (ha : Sl w va 1 n (ints (nl l))) : Calls Try.prog 71 #[.agg #[va], .int .i64 (a : Nat), .int .i64 (b : Nat)] w (Post No w fun v H => ∃ u, v = .agg #[u] ∧ H = [.own u 3 1 n (ints (nl (cx l (a, b))))]) := by
  subst hl
  exact l12CX_spec h5 ha5 hb5 hb ha

/-- Gates the other way round. -/
theorem gat_rev {w : List (Nat × Nat)} {k : Nat} (h : k < w.length) : gat w.reverse k = gat w (w.length - 1 - k) := by
  simp only [gat, List.getD, List.getElem?_reverse h]
theorem flCX_ext {u v : List (Nat × Nat)} (hl : u.length = v.length) (h : ∀ i, i < u.length → gat u i = gat v i) : u = v := by
  refine List.ext_getElem hl fun i h1 h2 => ?_
  have := h i h1
  simpa [gat, List.getD, h1, h2] using this
theorem flCX_set {v : List (Nat × Nat)} {e : Nat × Nat} : ∀ {k : Nat}, k < v.length → (((flCX v).set (k * 3) 9).set (k * 3 + 1) (e.1 : Int)).set (k * 3 + 2) (e.2 : Int) = flCX (v.set k e) := by
  induction v with
  | nil => intro k h; simp at h
  | cons x v ih =>
    intro k h
    cases k with
    | zero => rfl
    | succ k =>
      have := ih (k := k) (by simpa using h)
      rw [List.set_cons_succ]
      obtain ⟨a, b⟩ := x
      show _ = 9 :: (a : Int) :: (b : Int) :: flCX (v.set k e)
      rw [← this, show (k + 1) * 3 = k * 3 + 1 + 1 + 1 by omega, show k * 3 + 1 + 1 + 1 + 1 = (k * 3 + 1) + 1 + 1 + 1 by omega, show k * 3 + 1 + 1 + 1 + 2 = (k * 3 + 2) + 1 + 1 + 1 by omega]
      simp only [flCX, List.set_cons_succ]
theorem gat_set {v : List (Nat × Nat)} {e : Nat × Nat} {k j : Nat} (h : j < v.length) : gat (v.set k e) j = if k = j then e else gat v j := by
  by_cases c : k = j
  · subst c; simp [gat, List.getD, h]
  · simp [gat, List.getD, h, c]
theorem flCX_ix3 {l : List (Nat × Nat)} {k : Nat} (h : k < l.length) : ix (flCX l) (k * 3) = 9 ∧ ix (flCX l) (k * 3 + 1) = ((gat l k).1 : Int) ∧ ix (flCX l) (k * 3 + 2) = ((gat l k).2 : Int) := by
  obtain ⟨h1, h2, h3⟩ := flCX_get h
  simp [ix, List.getD, h1, h2, h3]
/-- The list whose first and last k gates have changed places. -/
def rvS (w : List (Nat × Nat)) : Nat → List (Nat × Nat)
  | 0 => w
  | k + 1 => ((rvS w k).set k (gat (rvS w k) (w.length - 1 - k))).set (w.length - 1 - k) (gat (rvS w k) k)
@[simp] theorem rvS_length (w : List (Nat × Nat)) : ∀ k, (rvS w k).length = w.length
  | 0 => rfl
  | k + 1 => by simp [rvS, rvS_length w k]
theorem gat_rvS {w : List (Nat × Nat)} : ∀ {k : Nat}, 2 * k ≤ w.length → ∀ i, i < w.length → gat (rvS w k) i = if i < k ∨ w.length - k ≤ i then gat w (w.length - 1 - i) else gat w i
  | 0, _, i, hi => by rw [if_neg (by omega)]; rfl
  | k + 1, hk, i, hi => by
    have ih := gat_rvS (w := w) (k := k) (by omega)
    rw [rvS, gat_set (by simpa using hi), gat_set (by simpa using hi)]
    by_cases c1 : w.length - 1 - k = i
    · rw [if_pos c1, ih k (by omega), if_neg (by omega), if_pos (by omega)]; congr 1; omega
    · rw [if_neg c1]
      by_cases c2 : k = i
      · rw [if_pos c2, ih _ (by omega), if_neg (by omega), if_pos (by omega)]; congr 1; omega
      · rw [if_neg c2, ih i hi]
        by_cases c3 : i < k ∨ w.length - k ≤ i
        · rw [if_pos c3, if_pos (by omega)]
        · rw [if_neg c3, if_neg (by omega)]
theorem rvS_done {w : List (Nat × Nat)} {k : Nat} (h1 : 2 * k ≤ w.length) (h2 : w.length ≤ 2 * k + 1) : rvS w k = w.reverse := by
  refine flCX_ext (by simp) fun i hi => ?_
  simp only [rvS_length] at hi
  rw [gat_rvS h1 i hi, gat_rev hi]
  split
  · rfl
  · congr 1; omega

set_option maxHeartbeats 1000000 in
set_option maxRecDepth 20000 in
theorem Reverse_spec {g n c : Nat} {l : List (Nat × Nat)} {w : World} (hl : l.length = n) (hn : n ≤ 100000) (h : (Res.own (.slice (some ⟨g, 0, none⟩) n c) 71 3 n (ints (flCX l))).holds w) : Calls Try.prog 99 #[.slice (some ⟨g, 0, none⟩) n c] w (Post (Of [.own (.slice (some ⟨g, 0, none⟩) n c) 71 3 n (ints (flCX l))]) w fun v H => v = .tuple #[] ∧ H = [.own (.slice (some ⟨g, 0, none⟩) n c) 71 3 n (ints (flCX (l.reverse)))]) := by
 refine enter (n := 28) (args := [.slice (some ⟨g, 0, none⟩) n c]) Try.func99 rfl rfl (St.start1 h) ?_
 refine Run.sr ?_
 refine Run.p (.slice (some ⟨g, 0, none⟩) n c) rfl rfl ?_
 refine Run.y (.int .i64 (((n : Nat) : Int))) rfl (OpY.len Tsl_36 rfl) ?_
 refine Run.y (.int .i64 ((((n : Nat) : Int)) - 1)) rfl (OpY.sub rfl rfl rfl (by omega) (by omega)) ?_
 refine Run.p (.int .i64 0) rfl rfl ?_
 refine Run.p (.int .i64 ((((n : Nat) : Int)) - 1)) rfl rfl ?_
 refine Run.done ?_
 refine Run.block ?_
 refine Run.loop (ι := Nat) [2, 3, 7, 8, 9, 10, 11, 12, 13, 14, 15, 16, 17, 18, 19, 20, 21, 22, 23, 24, 25, 26, 27] (fun k => [(2, .int .i64 (((k : Nat) : Int))), (3, .int .i64 ((n : Int) - 1 - ((k : Nat) : Int)))]) (fun k => [.own (.slice (some ⟨g, 0, none⟩) n c) 71 3 n (ints (flCX (rvS l k)))]) (fun k => 2 * k ≤ n) (fun k => n - 2 * k) 0 ?_ ?_ ?_ ?_
 ·omega
 ·exact ⟨rfl, (by show Value.int _ _ = Value.int _ _; congr 1; omega), trivial⟩
 ·exact (Some'.weak (.takeEq (by first | rfl | (rw [ha.1, ha.2.1, ha.2.2, hb.1, hb.2.1, hb.2.2, hY])) (.nil _)))
 ·rintro k fr hinv
  show Run _ _ (over _ _ [(2, .int .i64 (((k : Nat) : Int))), (3, .int .i64 ((n : Int) - 1 - ((k : Nat) : Int)))] fr) [.own (.slice (some ⟨g, 0, none⟩) n c) 71 3 n (ints (flCX (rvS l k)))]
  try dsimp only at hinv
  refine Run.seq ?_
  refine Run.sr ?_
  refine Run.p (.int .i64 (((k : Nat) : Int))) rfl rfl ?_
  refine Run.p (.int .i64 ((n : Int) - 1 - ((k : Nat) : Int))) rfl rfl ?_
  refine Run.p (.bool (decide ((((k : Nat) : Int)) < ((n : Int) - 1 - ((k : Nat) : Int))))) rfl rfl ?_
  refine Run.done ?_
  refine Run.cond (b := decide ((((k : Nat) : Int)) < ((n : Int) - 1 - ((k : Nat) : Int)))) rfl (fun h9 => ?_) (fun h9 => ?_)
  ·have p9 := h9; try simp only [bs] at p9
   have hkl : 2 * (k + 1) ≤ n := by omega
   have hrl : (rvS l k).length = n := by simp [hl]
   have hfl := flCX_length (rvS l k)
   have ha := flCX_ix3 (l := rvS l k) (k := k) (by omega)
   have hb := flCX_ix3 (l := rvS l k) (k := n - 1 - k) (by omega)
   have hX : rvS l (k + 1) = ((rvS l k).set k (gat (rvS l k) (n - 1 - k))).set (n - 1 - k) (gat (rvS l k) k) := by rw [rvS, hl]
   have hY : (((((((flCX (rvS l k)).set (k * 3) 9).set (k * 3 + 1) ((gat (rvS l k) (n - 1 - k)).1 : Int)).set (k * 3 + 2) ((gat (rvS l k) (n - 1 - k)).2 : Int)).set ((n - 1 - k) * 3) 9).set ((n - 1 - k) * 3 + 1) ((gat (rvS l k) k).1 : Int)).set ((n - 1 - k) * 3 + 2) ((gat (rvS l k) k).2 : Int)) = flCX (rvS l (k + 1)) := by rw [flCX_set (by omega), flCX_set (by simp; omega), ← hX]
   refine Run.skip ?_
   refine Run.seq ?_
   refine Run.block ?_
   refine Run.lastly [13, 15] (by kernel_rfl) ?_
   refine DL.takeP (i := 0) (v := .slice (some ⟨g, 0, none⟩) n c) rfl (by kernel_rfl) (by kernel_rfl) (by kernel_rfl) (fun _ _ _ h => h) rfl (fun _ => OpY.pure rfl) ?_
   refine DL.takeP (i := 1) (v := .int .i64 (((k : Nat) : Int))) rfl (by kernel_rfl) (by kernel_rfl) (by kernel_rfl) (fun _ _ _ h => h) rfl (fun _ => OpY.pure rfl) ?_
   refine DL.takeP (i := 2) (v := .slice (some ⟨g, 0, none⟩) n c) rfl (by kernel_rfl) (by kernel_rfl) (by kernel_rfl) (fun _ _ _ h => h) rfl (fun _ => OpY.pure rfl) ?_
   refine DL.takeP (i := 3) (v := .int .i64 ((n : Int) - 1 - ((k : Nat) : Int))) rfl (by kernel_rfl) (by kernel_rfl) (by kernel_rfl) (fun _ _ _ h => h) rfl (fun _ => OpY.pure rfl) ?_
   refine DL.takeP (i := 4) (v := .slice (some ⟨g, 0, none⟩) n c) rfl (by kernel_rfl) (by kernel_rfl) (by kernel_rfl) (fun _ _ _ h => h) rfl (fun _ => OpY.pure rfl) ?_
   refine DL.takeP (i := 5) (v := .int .i64 ((n : Int) - 1 - ((k : Nat) : Int))) rfl (by kernel_rfl) (by kernel_rfl) (by kernel_rfl) (fun _ _ _ h => h) rfl (fun _ => OpY.pure rfl) ?_
   refine DL.takeP (i := 6) (v := .pointer (some ⟨g, (n - 1 - k) * 3, none⟩)) rfl (by kernel_rfl) (by kernel_rfl) (by kernel_rfl) (fun _ _ _ h => h) rfl (fun _ => OpY.index (kk := n - 1 - k) Tsl_36 rfl rfl (by omega) (by omega) (by first | rfl | omega)) ?_
   refine DL.take (i := 7) (v := .agg #[.int .i64 (ix (flCX (rvS l k)) ((n - 1 - k) * 3)), .int .i64 (ix (flCX (rvS l k)) ((n - 1 - k) * 3 + 1)), .int .i64 (ix (flCX (rvS l k)) ((n - 1 - k) * 3 + 2))]) rfl (by kernel_rfl) (by kernel_rfl) (by kernel_rfl) (by kernel_rfl) (fun _ _ _ h => h) (Some'.weak (.take (.nil _))) rfl (OpY.loadN (cs := [.int .i64 (ix (flCX (rvS l k)) ((n - 1 - k) * 3)), .int .i64 (ix (flCX (rvS l k)) ((n - 1 - k) * 3 + 1)), .int .i64 (ix (flCX (rvS l k)) ((n - 1 - k) * 3 + 2))]) Tagg_71 rfl (Cells.own0 (.head _) (pre3 (by first | omega | (simp; omega))))) ?_
   refine DL.takeP (i := 8) (v := .slice (some ⟨g, 0, none⟩) n c) rfl (by kernel_rfl) (by kernel_rfl) (by kernel_rfl) (fun _ _ _ h => h) rfl (fun _ => OpY.pure rfl) ?_
   refine DL.takeP (i := 9) (v := .int .i64 (((k : Nat) : Int))) rfl (by kernel_rfl) (by kernel_rfl) (by kernel_rfl) (fun _ _ _ h => h) rfl (fun _ => OpY.pure rfl) ?_
   refine DL.takeP (i := 10) (v := .pointer (some ⟨g, k * 3, none⟩)) rfl (by kernel_rfl) (by kernel_rfl) (by kernel_rfl) (fun _ _ _ h => h) rfl (fun _ => OpY.index (kk := k) Tsl_36 rfl rfl (by omega) (by omega) (by first | rfl | omega)) ?_
   refine DL.take (i := 11) (v := .agg #[.int .i64 (ix (flCX (rvS l k)) (k * 3)), .int .i64 (ix (flCX (rvS l k)) (k * 3 + 1)), .int .i64 (ix (flCX (rvS l k)) (k * 3 + 2))]) rfl (by kernel_rfl) (by kernel_rfl) (by kernel_rfl) (by kernel_rfl) (fun _ _ _ h => h) (Some'.weak (.take (.nil _))) rfl (OpY.loadN (cs := [.int .i64 (ix (flCX (rvS l k)) (k * 3)), .int .i64 (ix (flCX (rvS l k)) (k * 3 + 1)), .int .i64 (ix (flCX (rvS l k)) (k * 3 + 2))]) Tagg_71 rfl (Cells.own0 (.head _) (pre3 (by first | omega | (simp; omega))))) ?_
   refine DL.takeP (i := 12) (v := .pointer (some ⟨g, k * 3, none⟩)) rfl (by kernel_rfl) (by kernel_rfl) (by kernel_rfl) (fun _ _ _ h => h) rfl (fun _ => OpY.index (kk := k) Tsl_36 rfl rfl (by omega) (by omega) (by first | rfl | omega)) ?_
   refine DL.step (i := 13) (by kernel_rfl) (by kernel_rfl) rfl rfl (OpStep.storeOwnInt3 (o := k * 3) (a := ix (flCX (rvS l k)) ((n - 1 - k) * 3)) (b := ix (flCX (rvS l k)) ((n - 1 - k) * 3 + 1)) (c := ix (flCX (rvS l k)) ((n - 1 - k) * 3 + 2)) Tsize_71 rfl rfl (.here _) (by first | omega | (simp; omega)) ?_)
   refine DL.takeP (i := 14) (v := .pointer (some ⟨g, (n - 1 - k) * 3, none⟩)) rfl (by kernel_rfl) (by kernel_rfl) (by kernel_rfl) (fun _ _ _ h => h) rfl (fun _ => OpY.index (kk := n - 1 - k) Tsl_36 rfl rfl (by omega) (by omega) (by first | rfl | omega)) ?_
   refine DL.step (i := 15) (by kernel_rfl) (by kernel_rfl) rfl rfl (OpStep.storeOwnInt3 (o := (n - 1 - k) * 3) (a := ix (flCX (rvS l k)) (k * 3)) (b := ix (flCX (rvS l k)) (k * 3 + 1)) (c := ix (flCX (rvS l k)) (k * 3 + 2)) Tsize_71 rfl rfl (.here _) (by first | omega | (simp; omega)) ?_)
   refine DL.done (by kernel_rfl) ?_
   refine Run.blockEnd ?_
   refine Run.region ?_
   refine Run.p (.int .i64 (((k : Nat) : Int))) rfl rfl ?_
   refine Run.y (.int .i64 (((k + 1 : Nat) : Int))) rfl (OpY.add rfl rfl (by omega) (by omega) (by omega)) ?_
   refine Run.p (.int .i64 ((n : Int) - 1 - ((k : Nat) : Int))) rfl rfl ?_
   refine Run.y (.int .i64 ((n : Int) - 1 - ((k + 1 : Nat) : Int))) rfl (OpY.sub rfl rfl (by omega) (by omega) (by omega)) ?_
   refine Run.p (.int .i64 (((k + 1 : Nat) : Int))) rfl rfl ?_
   refine Run.p (.int .i64 ((n : Int) - 1 - ((k + 1 : Nat) : Int))) rfl rfl ?_
   refine Run.done ?_
   refine Run.goal ⟨(by repeat (first | exact Same.refl _ _ | refine Same.put rfl ?_ | refine Same.over rfl rfl ?_)), k + 1, ?_, ?_, ?_, ?_⟩
   ·omega
   ·omega
   ·exact ⟨(by first | rfl | (congr 1; omega) | simp), (by first | rfl | (congr 1; omega) | simp), trivial⟩
   ·exact (Some'.weak (.takeEq (by first | rfl | (rw [ha.1, ha.2.1, ha.2.2, hb.1, hb.2.1, hb.2.2, hY])) (.nil _)))
  ·have p9 := h9; try simp only [bs] at p9
   have hkl : n ≤ 2 * k + 1 := by omega
   have hfin := rvS_done (w := l) (k := k) (by omega) (by omega)
   refine Run.exit rfl ?_
   refine Run.fin ?_
   refine ⟨.tuple #[], [.own (.slice (some ⟨g, 0, none⟩) n c) 71 3 n (ints (flCX (l.reverse)))], Out.none rfl, (Some'.weak (.takeEq (by rw [hfin]) (.nil _))), ?_⟩
   exact ⟨rfl, rfl⟩

set_option maxHeartbeats 1000000 in
set_option maxRecDepth 20000 in
theorem Reverse_nil {A : Option Addr} {c : Nat} {w : World} : Calls Try.prog 99 #[.slice A 0 c] w (Post No w fun v _ => v = .tuple #[]) := by
 refine enter (n := 28) (args := [.slice A 0 c]) Try.func99 rfl rfl (St.empty _ _) ?_
 refine Run.sr ?_
 refine Run.p (.slice A 0 c) rfl rfl ?_
 refine Run.y (.int .i64 0) rfl (OpY.len Tsl_36 rfl) ?_
 refine Run.p (.int .i64 (-1)) rfl rfl ?_
 refine Run.p (.int .i64 0) rfl rfl ?_
 refine Run.p (.int .i64 (-1)) rfl rfl ?_
 refine Run.done ?_
 refine Run.block ?_
 refine Run.unroll 1 ?_
 refine Run.again ?_
 refine Run.seq ?_
 refine Run.sr ?_
 refine Run.p (.int .i64 0) rfl rfl ?_
 refine Run.p (.int .i64 (-1)) rfl rfl ?_
 refine Run.p (.bool false) rfl rfl ?_
 refine Run.done ?_
 refine Run.cond (b := false) rfl (fun h => nomatch h) (fun _ => ?_)
 refine Run.exit rfl ?_
 refine Run.fin ?_
 refine ⟨.tuple #[], [], Out.none rfl, (Some'.weak (.nil _)), ?_⟩
 rfl


theorem Reverse_own {n : Nat} {v : Value} {l : List (Nat × Nat)} {w : World} (hl : l.length = n) (hn : n ≤ 100000) (h : (Res.own v 71 3 n (ints (flCX l))).holds w) :
    Calls Try.prog 99 #[v] w (Post (Of [.own v 71 3 n (ints (flCX l))]) w fun u H => u = .tuple #[] ∧ H = [.own v 71 3 n (ints (flCX l.reverse))]) := by
  have hs := St.start1 h
  have hsl : Sl w v 3 n (ints (flCX l)) := hs.slOwn (.head _)
  by_cases h0 : n = 0
  · subst h0
    have hl0 : l = [] := List.eq_nil_of_length_eq_zero hl
    subst hl0
    obtain ⟨A, c, rfl, _, _⟩ := hsl.form0
    refine (Reverse_nil (A := A) (c := c) (w := w)).mono fun e w' hp => ?_
    obtain ⟨u, H', he, hs', hu⟩ := hp
    exact ⟨u, _, he, (hs.call hs').sub (List.sublist_append_right H' _), hu, rfl⟩
  · rcases h.2 with ⟨_, h1⟩ | ⟨g, cap, cur, rfl, _⟩
    · exact absurd h1 h0
    · exact Reverse_spec hl hn h
def syW (n : Nat) (xs : List Int) : List (Nat × Nat) := if linOk xs n then (elW n (nats xs)).reverse else []
def syN (n : Nat) (xs : List Int) : Int := if linOk xs n then n else 0
theorem syW_len {n : Nat} (xs : List Int) : (syW n xs).length ≤ 50 := by
  unfold syW; split
  · rename_i h
    have : n ≤ 5 := by simp only [linOk, Bool.and_eq_true, within_iff] at h; omega
    rw [List.length_reverse]; exact elW_len this _
  · simp
set_option maxHeartbeats 1000000 in
set_option maxRecDepth 20000 in
theorem synthesized_spec {va : Value} {n : Nat} {r : List Nat} {w : World} (hl : r.length = n) (h1 : 1 ≤ n) (h5 : n ≤ 5) (hb : ∀ i, nx r i < 2 ^ n) (ha : Sl w va 1 n (ints (nl r))) : Calls Try.prog 59 #[.agg #[va]] w (Post No w fun v H => H = [.own v 71 3 (elW n r).length (ints (flCX (elW n r).reverse))]) := by
 have hlw := elW_len h5 r
 refine enter (n := 9) (args := [.agg #[va]]) Try.func59 rfl rfl (St.empty _ _) ?_
 refine Run.sr ?_
 refine Run.step rfl (OpStep.box (us := [va]) rfl fun b1 => ?_)
 refine Run.p (.slice none 0 0) rfl rfl ?_
 refine Run.dsr ?_
 refine Run.y (.agg #[va]) rfl (OpY.loadN (cs := [va]) Tagg_28 rfl (Cells.blk (.head _) ⟨rfl, trivial⟩)) ?_
 refine Run.step rfl (OpStep.call (vs := [.agg #[va]]) (caps := []) Tcall_98 rfl rfl (fun w hs => eliminated_spec hl h1 h5 hb (hs.sl ha)) ?_)
 rintro ue _ rfl
 show Run _ _ (putF _ _ _ ue) [.own ue 71 3 ((elW n r).length) (ints (flCX (elW n r))), .blk b1 28 [va]]
 refine Run.p (ue) rfl rfl ?_
 refine Run.dsr ?_
 refine Run.p (ue) rfl rfl ?_
 refine Run.step rfl (OpStep.callM (H1 := [.own ue 71 3 ((elW n r).length) (ints (flCX (elW n r)))]) (H2 := [.blk b1 28 [va]]) (vs := [ue]) (caps := []) Tcall_99 rfl rfl (Weak.refl _) (fun w hs => Reverse_own rfl (by omega) (hs.holds _ (.head _))) ?_)
 rintro _ _ ⟨rfl, rfl⟩
 show Run _ _ (putF _ _ _ (.tuple #[])) [.own ue 71 3 ((elW n r).length) (ints (flCX (elW n r).reverse)), .blk b1 28 [va]]
 refine Run.dsr ?_
 refine Run.p (ue) rfl rfl ?_
 refine Run.p (ue) rfl rfl ?_
 refine Run.done ?_
 refine Run.ret ?_
 refine ⟨ue, [.own ue 71 3 ((elW n r).length) (ints (flCX (elW n r).reverse))], Out.one rfl rfl, (Some'.weak (.take (.nil _))), ?_⟩
 rfl

set_option maxHeartbeats 1000000 in
set_option maxRecDepth 20000 in
theorem SynthesizeLinear_spec {va : Value} {n : Nat} {xs : List Int} {w : World} (ha : Sl w va 1 n (ints xs)) : Calls Try.prog 28 #[.agg #[va]] w (Post No w fun v H => ∃ u, v = .tuple #[.agg #[.int .i64 (syN n xs), u], .bool (linOk xs n)] ∧ H = [.own u 71 3 (syW n xs).length (ints (flCX (syW n xs)))]) := by
 have hxl : xs.length = n := by have := ha.len; omega
 obtain ⟨A, c, rfl, _, _⟩ := ha.form0
 refine enter (n := 16) (args := [.agg #[.slice A n c]]) Try.func28 rfl rfl (St.empty _ _) ?_
 refine Run.sr ?_
 refine Run.step rfl (OpStep.box (us := [.slice A n c]) rfl fun b1 => ?_)
 refine Run.step rfl (OpStep.alloc (zs := [.int .i64 0, .slice none 0 0]) Tzero_38 fun b2 => ?_)
 refine Run.p (.bool false) rfl rfl ?_
 refine Run.done ?_
 refine Run.seq ?_
 refine Run.sr ?_
 refine Run.y (.agg #[.slice A n c]) rfl (OpY.loadN (cs := [.slice A n c]) Tagg_28 rfl (Cells.blk (.tail _ (List.Mem.head _)) ⟨rfl, trivial⟩)) ?_
 refine Run.q (v := .bool (linOk xs n)) rfl (OpQ.call (vs := [.agg #[.slice A n c]]) (caps := []) Tcall_35 rfl rfl (fun w hs => IsValidLinear_spec (hs.sl ha))) ?_
 refine Run.p (.bool (!(linOk xs n))) rfl rfl ?_
 refine Run.done ?_
 refine Run.cond (b := !(linOk xs n)) rfl (fun h6 => ?_) (fun h6 => ?_)
 ·have p6 := h6; try simp only [bs] at p6
  have hok : linOk xs n = false := by simpa using p6
  have e1 : syN n xs = 0 := by rw [syN, hok]; rfl
  have e2 : syW n xs = [] := by rw [syW, hok]; rfl
  refine Run.sr ?_
  refine Run.y (.agg #[.int .i64 0, .slice none 0 0]) rfl (OpY.build (cs := [.int .i64 0, .slice none 0 0]) (by kernel_rfl)) ?_
  refine Run.step rfl (OpStep.storeAll (us := [.int .i64 0, .slice none 0 0]) Tsize_38 rfl rfl rfl (.here _) rfl ?_)
  refine Run.p (.bool false) rfl rfl ?_
  refine Run.done ?_
  refine Run.ret ?_
  refine ⟨.tuple #[.agg #[.int .i64 0, .slice none 0 0], .bool false], [.own (.slice none 0 0) 71 3 ((syW n xs).length) (ints (flCX (syW n xs)))], Out.cell2 (cs := [.int .i64 0, .slice none 0 0]) rfl Tagg_38 rfl (Cells.blk (.head _) ⟨rfl, rfl, trivial⟩) rfl, ((Weak.nilOwn 71 3).trans (Some'.weak (.takeEq (by first | (rw [e3, e2]; done) | (rw [e2]; rfl)) (.nil _)))), ?_⟩
  exact ⟨_, by rw [e1, hok], rfl⟩
 ·have p6 := h6; try simp only [bs] at p6
  have hok : linOk xs n = true := by simpa using p6
  obtain ⟨h1, h5, hnx, hnl, hlt, hin⟩ := lin_facts hxl hok
  have hlw := elW_len h5 (nats xs)
  have e1 : syN n xs = n := by rw [syN, if_pos hok]
  have e2 : syW n xs = (elW n (nats xs)).reverse := by rw [syW, if_pos hok]
  have e3 : (syW n xs).length = (elW n (nats xs)).length := by rw [e2, List.length_reverse]
  have ha2 : Sl w (.slice A n c) 1 n (ints (nl (nats xs))) := by rw [hnx]; exact ha
  refine Run.skip ?_
  refine Run.seq ?_
  refine Run.heldB (base := [.blk b1 28 [.slice A n c]]) (by kernel_rfl) ?_
  refine DW.take (i := 0) (v := .pointer (some ⟨b1, 0, none⟩)) rfl (by kernel_rfl) (by kernel_rfl) (by kernel_rfl) (fun _ _ _ h => h) (Some'.weak (.skip (.take (.nil _)))) rfl (OpY.fieldAddr Tfo_28_0 rfl rfl) ?_
  refine DW.take (i := 1) (v := .slice A n c) rfl (by kernel_rfl) (by kernel_rfl) (by kernel_rfl) (fun _ _ _ h => h) (Some'.weak (.skip (.take (.nil _)))) rfl (OpY.load1 Tone_22 rfl (Cells.blk (.head _) ⟨rfl, trivial⟩)) ?_
  refine DW.take (i := 2) (v := .int .i64 (((n : Nat) : Int))) rfl (by kernel_rfl) (by kernel_rfl) (by kernel_rfl) (fun _ _ _ h => h) (Some'.weak (.skip (.take (.nil _)))) rfl (OpY.len Tsl_22 rfl) ?_
  refine DW.take (i := 3) (v := .agg #[.slice A n c]) rfl (by kernel_rfl) (by kernel_rfl) (by kernel_rfl) (fun _ _ _ h => h) (Some'.weak (.skip (.take (.nil _)))) rfl (OpY.loadN (cs := [.slice A n c]) Tagg_28 rfl (Cells.blk (.head _) ⟨rfl, trivial⟩)) ?_
  refine DW.step (i := 4) (by kernel_rfl) rfl rfl (OpStep.call (vs := [.agg #[.slice A n c]]) (caps := []) Tcall_59 rfl rfl (fun w hs => synthesized_spec hnl h1 h5 hlt (hs.sl ha2)) ?_)
  rintro us _ rfl
  refine ⟨(Some'.weak (.skip (.skip (.take (.nil _))))), ?_⟩
  refine DW.step (i := 5) (by kernel_rfl) rfl rfl (OpStep.call (vs := [.int .i64 (((n : Nat) : Int)), us]) (caps := []) Tcall_52 rfl rfl (fun w hs => circuitIf_spec (N := (n : Int)) (by omega) (by have h := circ_cx ⟨h1, h5⟩ (wok_rev (elW_ok n (nats xs))) (by rw [List.length_reverse]; omega); rw [List.length_reverse] at h; exact h) (hs.slOwn (.head _))) ?_)
  rintro _ _ ⟨uc, rfl, rfl⟩
  refine ⟨(Some'.weak (.skip (.skip (.skip (.take (.nil _)))))), ?_⟩
  refine DW.take (i := 6) (v := .agg #[.int .i64 (((n : Nat) : Int)), uc]) rfl (by kernel_rfl) (by kernel_rfl) (by kernel_rfl) (fun _ _ _ h => h) (Some'.weak (.skip (.skip (.skip (.take (.nil _)))))) rfl (OpY.pure rfl) ?_
  refine DW.take (i := 7) (v := .bool true) rfl (by kernel_rfl) (by kernel_rfl) (by kernel_rfl) (fun _ _ _ h => h) (Some'.weak (.skip (.skip (.skip (.take (.nil _)))))) rfl (OpY.pure rfl) ?_
  refine DW.formOwn (.head _) (fun A_uc1 c_uc1 hv hcapc_uc1 hmaxc_uc1 => ?_)
  subst hv
  refine DW.step (i := 8) (by kernel_rfl) rfl rfl (OpStep.storeAll (us := [.int .i64 (((n : Nat) : Int)), .slice A_uc1 ((elW n (nats xs)).length) c_uc1]) Tsize_38 rfl rfl rfl (.there _ (.there _ (.here _))) rfl ?_)
  refine ⟨(Some'.weak (.skip (.skip (.skip (.take (.nil _)))))), ?_⟩
  refine DW.take (i := 9) (v := .bool true) rfl (by kernel_rfl) (by kernel_rfl) (by kernel_rfl) (fun _ _ _ h => h) (Some'.weak (.skip (.skip (.skip (.take (.nil _)))))) rfl (OpY.pure rfl) ?_
  refine DW.done (by kernel_rfl) ?_
  refine Run.ret ?_
  refine ⟨.tuple #[.agg #[.int .i64 (((n : Nat) : Int)), .slice A_uc1 ((elW n (nats xs)).length) c_uc1], .bool true], [.own (.slice A_uc1 ((elW n (nats xs)).length) c_uc1) 71 3 ((syW n xs).length) (ints (flCX (syW n xs)))], Out.cell2 (cs := [.int .i64 (((n : Nat) : Int)), .slice A_uc1 ((elW n (nats xs)).length) c_uc1]) rfl Tagg_38 rfl (Cells.blk (.tail _ (.tail _ (List.Mem.head _))) ⟨rfl, rfl, trivial⟩) rfl, (Some'.weak (.takeEq (by first | (rw [e3, e2]; done) | (rw [e2]; rfl)) (.nil _))), ?_⟩
  exact ⟨_, by rw [e1, hok], rfl⟩

end Go.Proofs.Yteehfidjofcfmaa
/- Walks: the Gray network, of the program. -/
set_option linter.unusedSimpArgs false
set_option linter.unusedVariables false
namespace Go.Proofs.Yteehfidjofcfmaa
open Go Go.RowKit
namespace GrcT
theorem Tagg_129 : aggOf Try.prog 129 = some 3 := by kernel_rfl
theorem Tcall_109 : callable Try.prog 109 = true := by kernel_rfl
theorem Tcall_117 : callable Try.prog 117 = true := by kernel_rfl
theorem Tcall_118 : callable Try.prog 118 = true := by kernel_rfl
theorem Tcall_119 : callable Try.prog 119 = true := by kernel_rfl
theorem Tcall_120 : callable Try.prog 120 = true := by kernel_rfl
theorem Tfo_129_0 : fieldOff Try.prog 129 0 = some 0 := by kernel_rfl
theorem Tfo_129_1 : fieldOff Try.prog 129 1 = some 1 := by kernel_rfl
theorem Tfo_129_2 : fieldOff Try.prog 129 2 = some 2 := by kernel_rfl
theorem Tone_22 : oneOf Try.prog 22 = true := by kernel_rfl
theorem Tone_3 : oneOf Try.prog 3 = true := by kernel_rfl
theorem Tsize_129 : (Try.prog.info? 129).map (·.size) = some 3 := by kernel_rfl
theorem Tsize_3 : (Try.prog.info? 3).map (·.size) = some 1 := by kernel_rfl
theorem Tsl_130 : sliceOf Try.prog 130 = some (129, 3, 40, [.slice none 0 0, .int .i64 0, .int .i64 0]) := by kernel_rfl
theorem Tsl_22 : sliceOf Try.prog 22 = some (3, 1, 8, [.int .i64 0]) := by kernel_rfl
theorem Tsl_36 : sliceOf Try.prog 36 = some (71, 3, 24, [.int .i64 0, .int .i64 0, .int .i64 0]) := by kernel_rfl
theorem Tzero_129 : zeroOf Try.prog 129 = some [.slice none 0 0, .int .i64 0, .int .i64 0] := by kernel_rfl
end GrcT
open GrcT
set_option maxHeartbeats 1000000 in
set_option maxRecDepth 20000 in
theorem grayInv_spec {vt : Value} {zs : List TZ} {j t : Nat} {w : World} (hj : j ≤ 5) (ht : t ≤ 5) (hb : ∀ z ∈ zs, ∀ v ∈ z.2.2.1, v < 32) (hl : ∀ z ∈ zs, z.2.2.1.length ≤ 1000) (hf : ∀ z ∈ zs, z.2.1 = .int .i64 ((fm z.2.2.2.1 : Nat) : Int)) (hst : St (Of [.own vt 129 3 (zs.length) (tcells zs), .grp 3 1 (tg zs)]) w w [.own vt 129 3 (zs.length) (tcells zs), .grp 3 1 (tg zs)]) : Calls Try.prog 118 #[vt, .int .i64 (j : Int), .int .i64 (t : Int)] w (Post (Of [.own vt 129 3 (zs.length) (tcells zs), .grp 3 1 (tg zs)]) w fun v H => v = .tuple #[] ∧ H = [.own vt 129 3 (zs.length) (tcells zs), .grp 3 1 (tg (zs.map (addZ j t)))]) := by
 have hsl := hst.slOwn (.head _)
 have hn := hsl.le
 obtain ⟨A0, c0, rfl, _, _⟩ := hsl.form0
 obtain ⟨q, hq⟩ : ∃ q : Nat, q = 2 ^ j := ⟨_, rfl⟩
 have hq32 : q ≤ 32 := by rw [hq]; exact Nat.le_trans (Nat.pow_le_pow_right (by omega) hj) (by decide)
 refine enter (n := 39) (args := [.slice A0 (zs.length) c0, .int .i64 (((j : Nat) : Int)), .int .i64 (((t : Nat) : Int))]) Try.func118 rfl rfl (hst) ?_
 refine Run.sr ?_
 refine Run.p (.slice A0 (zs.length) c0) rfl rfl ?_
 refine Run.y (.int .i64 (((zs.length : Nat) : Int))) rfl (OpY.len Tsl_130 rfl) ?_
 refine Run.p (.int .i64 0) rfl rfl ?_
 refine Run.done ?_
 refine Run.block ?_
 refine Run.loop (ι := Nat) [7, 8, 9, 12, 13, 14, 15, 16, 17, 18, 19, 20, 21, 22, 23, 24, 25, 26, 27, 28, 29, 30, 31, 32, 33, 34, 35, 36, 37, 38] (fun i => [(12, .int .i64 (((i : Nat) : Int)))]) (fun i => [.own (.slice A0 (zs.length) c0) 129 3 (zs.length) (tcells zs), .grp 3 1 (tg (mixZ j t i zs))]) (fun i => i ≤ zs.length) (fun i => zs.length - i) 0 ?_ ?_ ?_ ?_
 ·exact Nat.zero_le _
 ·exact ⟨rfl, trivial⟩
 ·exact ((Weak.refl _).trans (Some'.weak (.take (.takeEq (by first | rfl | (rw [mixZ_zero]) | (rw [(mixZ_at hz).2])) (.nil _)))))
 ·rintro i fr hinv
  show Run _ _ (over _ _ [(12, .int .i64 (((i : Nat) : Int)))] fr) [.own (.slice A0 (zs.length) c0) 129 3 (zs.length) (tcells zs), .grp 3 1 (tg (mixZ j t i zs))]
  try dsimp only at hinv
  refine Run.sr ?_
  refine Run.p (.bool (decide ((((i : Nat) : Int)) < (((zs.length : Nat) : Int))))) rfl rfl ?_
  refine Run.done ?_
  refine Run.seq ?_
  refine Run.cond (b := decide ((((i : Nat) : Int)) < (((zs.length : Nat) : Int)))) rfl (fun h13 => ?_) (fun h13 => ?_)
  ·have p13 := h13; try simp only [bs] at p13
   have hlt : i < zs.length := by omega
   obtain ⟨⟨zv, ⟨zf, ⟨vs, ⟨fq, t2⟩⟩⟩⟩, hz⟩ : ∃ z, zs[i]? = some z := ⟨_, List.getElem?_eq_getElem hlt⟩
   have hzf : zf = .int .i64 ((fm fq : Nat) : Int) := hf _ (List.mem_of_getElem? hz)
   subst hzf
   have hvl : vs.length ≤ 1000 := hl _ (List.mem_of_getElem? hz)
   have hb32 : ∀ v ∈ vs, v < 32 := hb _ (List.mem_of_getElem? hz)
   refine Run.openOwn (.head _) (by omega) (fun gt ct hvgt hcapgt _ => ?_) (fun _ _ _ => ⟨nofun, nofun, nofun⟩)
   injection hvgt with hAgt _ hcgt; subst hAgt; subst hcgt
   rw [(mixZ_at hz).1]
   refine Run.weak (H' := [.own zv 3 1 (vs.length) (ints (nl vs)), .grp 3 1 (tg ((zs.take i).map (addZ j t) ++ zs.drop (i + 1))), .own (.slice (some ⟨gt, 0, none⟩) (zs.length) c0) 129 3 (zs.length) (tcells zs)]) ((Weak.selF [1]).trans Weak.tgTake) ?_ ⟨_, _, rfl, fun _ => nofun, fun _ => nofun⟩
   refine Run.skip ?_
   refine Run.seq ?_
   refine Run.block ?_
   refine Run.sr ?_
   refine Run.y (.pointer (some ⟨gt, i * 3, none⟩)) rfl (OpY.index (kk := i) Tsl_130 rfl rfl (by omega) (by omega) (by first | rfl | omega)) ?_
   refine Run.y (.agg #[zv, .int .i64 (((fm fq : Nat) : Int)), .int .i64 t2]) rfl (OpY.loadN (cs := [zv, .int .i64 (((fm fq : Nat) : Int)), .int .i64 t2]) Tagg_129 rfl (Cells.own0 (.tail _ (.tail _ (List.Mem.head _))) (preT hz))) ?_
   refine Run.step rfl (OpStep.alloc (zs := [.slice none 0 0, .int .i64 0, .int .i64 0]) Tzero_129 fun b1 => ?_)
   refine Run.formOwn (.tail _ (List.Mem.head _)) (fun A_zv1 c_zv1 hv hcapc_zv1 hmaxc_zv1 => ?_) (fun _ _ _ => ⟨nofun, nofun, nofun⟩)
   subst hv
   refine Run.step rfl (OpStep.storeAll (us := [.slice A_zv1 (vs.length) c_zv1, .int .i64 (((fm fq : Nat) : Int)), .int .i64 t2]) Tsize_129 rfl rfl rfl (.here _) rfl ?_)
   refine Run.dsr ?_
   refine Run.y (.pointer (some ⟨b1, 0, none⟩)) rfl (OpY.fieldAddr Tfo_129_0 rfl rfl) ?_
   refine Run.y (.slice A_zv1 (vs.length) c_zv1) rfl (OpY.load1 Tone_22 rfl (Cells.blk (.head _) ⟨rfl, trivial⟩)) ?_
   refine Run.y (.int .i64 (((vs.length : Nat) : Int))) rfl (OpY.len Tsl_22 rfl) ?_
   refine Run.p (.int .i64 0) rfl rfl ?_
   refine Run.done ?_
   refine Run.block ?_
   refine Run.loop (ι := Nat) [8, 9, 19, 20, 21, 22, 23, 24, 25, 26, 27, 28, 29, 30, 31, 32, 33, 34, 35, 36, 37] (fun k => [(19, .int .i64 (((k : Nat) : Int)))]) (fun k => [.blk b1 129 [.slice A_zv1 (vs.length) c_zv1, .int .i64 (((fm fq : Nat) : Int)), .int .i64 t2], .own (.slice A_zv1 (vs.length) c_zv1) 3 1 (vs.length) (ints (nl (mixV j t k vs))), .grp 3 1 (tg ((zs.take i).map (addZ j t) ++ zs.drop (i + 1))), .own (.slice (some ⟨gt, 0, none⟩) (zs.length) c0) 129 3 (zs.length) (tcells zs)]) (fun k => k ≤ vs.length) (fun k => vs.length - k) 0 ?_ ?_ ?_ ?_
   ·exact Nat.zero_le _
   ·exact ⟨rfl, trivial⟩
   ·exact ((Weak.refl _).trans (Some'.weak (.take (.takeEq (by first | rfl | (rw [mixV_zero]) | (rw [mixV_keep hkl hbit]) | (rw [ints_nl_set, mixV_nx hkl, hq, ← mixV_set hkl, addV, if_pos hbit])) (.take (.take (.nil _)))))))
   ·rintro k fr hinv
    show Run _ _ (over _ _ [(19, .int .i64 (((k : Nat) : Int)))] fr) [.blk b1 129 [.slice A_zv1 (vs.length) c_zv1, .int .i64 (((fm fq : Nat) : Int)), .int .i64 t2], .own (.slice A_zv1 (vs.length) c_zv1) 3 1 (vs.length) (ints (nl (mixV j t k vs))), .grp 3 1 (tg ((zs.take i).map (addZ j t) ++ zs.drop (i + 1))), .own (.slice (some ⟨gt, 0, none⟩) (zs.length) c0) 129 3 (zs.length) (tcells zs)]
    try dsimp only at hinv
    refine Run.sr ?_
    refine Run.p (.bool (decide ((((k : Nat) : Int)) < (((vs.length : Nat) : Int))))) rfl rfl ?_
    refine Run.done ?_
    refine Run.seq ?_
    refine Run.cond (b := decide ((((k : Nat) : Int)) < (((vs.length : Nat) : Int)))) rfl (fun h20 => ?_) (fun h20 => ?_)
    ·have p20 := h20; try simp only [bs] at p20
     have hkl : k < vs.length := by omega
     have hml := mixV_length j t vs k
     have hx32 : nx vs k < 32 := by have h := hb32 _ (List.getElem_mem hkl); simpa [nx, List.getD, hkl] using h
     refine Run.openOwn (.tail _ (List.Mem.head _)) (by omega) (fun gv cv hvgv hcapgv _ => ?_) (fun _ _ _ => ⟨nofun, nofun, nofun⟩)
     injection hvgv with hAgv _ hcgv; subst hAgv; subst hcgv
     refine Run.skip ?_
     refine Run.seq ?_
     refine Run.block ?_
     refine Run.sr ?_
     refine Run.p (.int .i64 (((k : Nat) : Int))) rfl rfl ?_
     refine Run.y (.pointer (some ⟨gv, k, none⟩)) rfl (OpY.index (kk := k) Tsl_22 rfl rfl (by omega) (by omega) (by first | rfl | omega)) ?_
     refine Run.y (.int .i64 (ix (nl (mixV j t k vs)) (k))) rfl (OpY.load1 Tone_3 rfl (Cells.own0 (.tail _ (List.Mem.head _)) (pre1 (by first | omega | (simp only [ints_length, nl_length, mixV_length]; omega))))) ?_
     refine Run.p (.int .i64 (((k : Nat) : Int))) rfl rfl ?_
     refine Run.p (.int .i64 (ix (nl (mixV j t k vs)) (k))) rfl rfl ?_
     refine Run.dsr ?_
     refine Run.p (.int .i64 (ix (nl (mixV j t k vs)) (k))) rfl rfl ?_
     refine Run.p (.int .i64 (((t : Nat) : Int))) rfl rfl ?_
     refine Run.y (.int .i64 ((ix (nl (mixV j t k vs)) (k)) >>> t)) rfl (OpY.shr rfl rfl (by first | rfl | omega) (by omega)) ?_
     refine Run.y (.int .i64 (((ix (nl (mixV j t k vs)) (k)) >>> t) % 2)) rfl (OpY.and1 rfl rfl) ?_
     refine Run.p (.bool ((((ix (nl (mixV j t k vs)) (k)) >>> t) % 2) == 1)) rfl rfl ?_
     refine Run.done ?_
     refine Run.cond (b := (((ix (nl (mixV j t k vs)) (k)) >>> t) % 2) == 1) rfl (fun h28 => ?_) (fun h28 => ?_)
     ·have p28 := h28; try simp only [bs] at p28
      have hbit : (nx vs k).testBit t = true := by rw [← mixV_nx (j := j) (t := t) hkl, ← bitI_nl]; exact bitI_true p28
      refine Run.lastly [8] (by kernel_rfl) ?_
      refine DL.takeP (i := 0) (v := .pointer (some ⟨b1, 0, none⟩)) rfl (by kernel_rfl) (by kernel_rfl) (by kernel_rfl) (fun _ _ _ h => h) rfl (fun _ => OpY.fieldAddr Tfo_129_0 rfl rfl) ?_
      refine DL.take (i := 1) (v := .slice (some ⟨gv, 0, none⟩) (vs.length) c_zv1) rfl (by kernel_rfl) (by kernel_rfl) (by kernel_rfl) (by kernel_rfl) (fun _ _ _ h => h) (Some'.weak (.take (.take (.take (.take (.nil _)))))) rfl (OpY.load1 Tone_22 rfl (Cells.blk (.head _) ⟨rfl, trivial⟩)) ?_
      refine DL.takeP (i := 2) (v := .int .i64 (((k : Nat) : Int))) rfl (by kernel_rfl) (by kernel_rfl) (by kernel_rfl) (fun _ _ _ h => h) rfl (fun _ => OpY.pure rfl) ?_
      refine DL.takeP (i := 3) (v := .int .i64 (ix (nl (mixV j t k vs)) (k))) rfl (by kernel_rfl) (by kernel_rfl) (by kernel_rfl) (fun _ _ _ h => h) rfl (fun _ => OpY.pure rfl) ?_
      refine DL.takeP (i := 4) (v := .int .i64 (((j : Nat) : Int))) rfl (by kernel_rfl) (by kernel_rfl) (by kernel_rfl) (fun _ _ _ h => h) rfl (fun _ => OpY.pure rfl) ?_
      refine DL.takeP (i := 5) (v := .int .i64 (((q : Nat) : Int))) rfl (by kernel_rfl) (by kernel_rfl) (by kernel_rfl) (fun _ _ _ h => h) rfl (fun _ => OpY.shlOne rfl rfl rfl (by omega) hq) ?_
      refine DL.takeP (i := 6) (v := .int .i64 (((nx (mixV j t k vs) k ^^^ q : Nat) : Int))) rfl (by kernel_rfl) (by kernel_rfl) (by kernel_rfl) (fun _ _ _ h => h) rfl (fun _ => OpY.xorNat rfl rfl (ix_nl _ _) rfl (by rw [mixV_nx (by omega)]; omega) (by omega)) ?_
      refine DL.takeP (i := 7) (v := .pointer (some ⟨gv, k, none⟩)) rfl (by kernel_rfl) (by kernel_rfl) (by kernel_rfl) (fun _ _ _ h => h) rfl (fun _ => OpY.index (kk := k) Tsl_22 rfl rfl (by omega) (by omega) (by first | rfl | omega)) ?_
      refine DL.step (i := 8) (by kernel_rfl) (by kernel_rfl) rfl rfl (OpStep.storeOwnInt (o := k) (a := ((nx (mixV j t k vs) k ^^^ q : Nat) : Int)) Tsize_3 rfl rfl (.there _ (.here _)) (by first | omega | (simp only [ints_length, nl_length, mixV_length]; omega)) ?_)
      refine DL.done (by kernel_rfl) ?_
      refine Run.blockEnd ?_
      refine Run.region ?_
      refine Run.y (.int .i64 ((((k : Nat) : Int)) + 1)) rfl (OpY.add rfl rfl rfl (by omega) (by omega)) ?_
      refine Run.p (.int .i64 ((((k : Nat) : Int)) + 1)) rfl rfl ?_
      refine Run.done ?_
      refine Run.goal ⟨(by repeat (first | exact Same.refl _ _ | refine Same.put rfl ?_ | refine Same.over rfl rfl ?_)), k + 1, ?_, ?_, ?_, ?_⟩
      ·omega
      ·omega
      ·exact ⟨(by first | rfl | (congr 1; omega) | simp), trivial⟩
      ·exact ((Weak.refl _).trans (Some'.weak (.takeEq (by first | rfl | (rw [mixV_zero]) | (rw [mixV_keep hkl hbit]) | (rw [ints_nl_set, mixV_nx hkl, hq, ← mixV_set hkl, addV, if_pos hbit])) (.takeEq (by first | rfl | (rw [mixV_zero]) | (rw [mixV_keep hkl hbit]) | (rw [ints_nl_set, mixV_nx hkl, hq, ← mixV_set hkl, addV, if_pos hbit])) (.takeEq (by first | rfl | (rw [mixV_zero]) | (rw [mixV_keep hkl hbit]) | (rw [ints_nl_set, mixV_nx hkl, hq, ← mixV_set hkl, addV, if_pos hbit])) (.takeEq (by first | rfl | (rw [mixV_zero]) | (rw [mixV_keep hkl hbit]) | (rw [ints_nl_set, mixV_nx hkl, hq, ← mixV_set hkl, addV, if_pos hbit])) (.nil _)))))))
     ·have p28 := h28; try simp only [bs] at p28
      have hbit : (nx vs k).testBit t = false := by rw [← mixV_nx (j := j) (t := t) hkl, ← bitI_nl]; exact bitI_ne1 p28
      refine Run.skip ?_
      refine Run.blockEnd ?_
      refine Run.region ?_
      refine Run.y (.int .i64 ((((k : Nat) : Int)) + 1)) rfl (OpY.add rfl rfl rfl (by omega) (by omega)) ?_
      refine Run.p (.int .i64 ((((k : Nat) : Int)) + 1)) rfl rfl ?_
      refine Run.done ?_
      refine Run.goal ⟨(by repeat (first | exact Same.refl _ _ | refine Same.put rfl ?_ | refine Same.over rfl rfl ?_)), k + 1, ?_, ?_, ?_, ?_⟩
      ·omega
      ·omega
      ·exact ⟨(by first | rfl | (congr 1; omega) | simp), trivial⟩
      ·exact ((Weak.refl _).trans (Some'.weak (.takeEq (by first | rfl | (rw [mixV_zero]) | (rw [mixV_keep hkl hbit]) | (rw [ints_nl_set, mixV_nx hkl, hq, ← mixV_set hkl, addV, if_pos hbit])) (.takeEq (by first | rfl | (rw [mixV_zero]) | (rw [mixV_keep hkl hbit]) | (rw [ints_nl_set, mixV_nx hkl, hq, ← mixV_set hkl, addV, if_pos hbit])) (.takeEq (by first | rfl | (rw [mixV_zero]) | (rw [mixV_keep hkl hbit]) | (rw [ints_nl_set, mixV_nx hkl, hq, ← mixV_set hkl, addV, if_pos hbit])) (.takeEq (by first | rfl | (rw [mixV_zero]) | (rw [mixV_keep hkl hbit]) | (rw [ints_nl_set, mixV_nx hkl, hq, ← mixV_set hkl, addV, if_pos hbit])) (.nil _)))))))
    ·have p20 := h20; try simp only [bs] at p20
     have hkn : k = vs.length := by omega
     refine Run.exit rfl ?_
     refine Run.blockEnd ?_
     refine Run.weak (H' := [.grp 3 1 (tg ((zs.take i).map (addZ j t) ++ addZ j t ((.slice A_zv1 (vs.length) c_zv1 : Value), ((.int .i64 ((fm fq : Nat) : Int) : Value), (vs, (fq, t2)))) :: zs.drop (i + 1))), .blk b1 129 [.slice A_zv1 (vs.length) c_zv1, .int .i64 (((fm fq : Nat) : Int)), .int .i64 t2], .own (.slice (some ⟨gt, 0, none⟩) (zs.length) c0) 129 3 (zs.length) (tcells zs)]) ((Weak.selF [1, 1]).trans (Weak.trans (Some'.weak (.takeEq (by rw [hkn, mixV_all]; simp only [addZ, addT, List.length_map]) (.take (.take (.take (.nil _)))))) Weak.tgPut)) ?_ ⟨_, _, rfl, fun _ => nofun, fun _ => nofun⟩
     refine Run.region ?_
     refine Run.y (.int .i64 ((((i : Nat) : Int)) + 1)) rfl (OpY.add rfl rfl rfl (by omega) (by omega)) ?_
     refine Run.p (.int .i64 ((((i : Nat) : Int)) + 1)) rfl rfl ?_
     refine Run.done ?_
     refine Run.goal ⟨(by repeat (first | exact Same.refl _ _ | refine Same.put rfl ?_ | refine Same.over rfl rfl ?_)), i + 1, ?_, ?_, ?_, ?_⟩
     ·omega
     ·omega
     ·exact ⟨(by first | rfl | (congr 1; omega) | simp), trivial⟩
     ·exact ((Weak.selF [2, 0]).trans (Some'.weak (.takeEq (by first | rfl | (rw [mixZ_zero]) | (rw [(mixZ_at hz).2])) (.takeEq (by first | rfl | (rw [mixZ_zero]) | (rw [(mixZ_at hz).2])) (.nil _)))))
  ·have p13 := h13; try simp only [bs] at p13
   have hin : i = zs.length := by omega
   refine Run.exit rfl ?_
   refine Run.fin ?_
   refine ⟨.tuple #[], [.own (.slice A0 (zs.length) c0) 129 3 (zs.length) (tcells zs), .grp 3 1 (tg (zs.map (addZ j t)))], Out.none rfl, (Some'.weak (.take (.takeEq (by first | rfl | (rw [hin, mixZ_all])) (.nil _)))), ?_⟩
   exact ⟨rfl, rfl⟩


theorem gts_split {zs : List TZ} {m : Nat} {zv zf : Value} {T : GT} (hm : zs.length = m + 1) (hz : zs[m]? = some (zv, (zf, T))) : gts zs = gts (zs.take m) ++ [T] := by
  conv => lhs; rw [snoc_take hm hz]
  simp [gts]
theorem gts_go {zs : List TZ} {a b : TZ} : gts (zs ++ [a] ++ [b]) = gts zs ++ [a.2.2, b.2.2] := by simp [gts]
theorem fm_go {zs : List TZ} {a b : TZ} (h : ∀ z ∈ zs, z.2.1 = .int .i64 ((fm z.2.2.2.1 : Nat) : Int)) (ha : a.2.1 = .int .i64 ((fm a.2.2.2.1 : Nat) : Int)) (hb : b.2.1 = .int .i64 ((fm b.2.2.2.1 : Nat) : Int)) : ∀ z ∈ zs ++ [a] ++ [b], z.2.1 = .int .i64 ((fm z.2.2.2.1 : Nat) : Int) := by
  intro z hz
  simp only [List.mem_append, List.mem_singleton] at hz
  rcases hz with (hz | rfl) | rfl
  · exact h z hz
  · exact ha
  · exact hb
theorem ints_flCX_snoc (G : List (Nat × Nat)) (j : Nat) (t : Int) (tn : Nat) (ht : t = (tn : Int)) : ints (flCX G) ++ [.int .i64 9, .int .i64 ((j : Nat) : Int), .int .i64 t] = ints (flCX (G ++ [(j, tn)])) := by
  rw [ht]; exact ints_flCX G j tn

theorem St.fresh1 {w w' : World} {v : Value} {e : TypeId} {size n : Nat} {xs : List Value} (ho : w'.ownsRow w.heap.size e size v n xs) (hb : Below w.heap.size w w') : St No w w' [.own v e size n xs] := by
  refine ⟨hb.os, hb.tape, hb.output, hb.size, fun k hk _ => hb.block k hk, ?_, ?_, by simp⟩
  · intro r hr
    simp only [List.mem_singleton] at hr; subst hr
    refine ⟨ho.1, ?_⟩
    rcases ho.2 with h | ⟨g, cap, cur, h1, h2, h3⟩
    · exact .inl h
    · exact .inr ⟨g, cap, cur, h1, Nat.zero_le _, h3⟩
  · intro r hr k hk hl
    simp only [List.mem_singleton] at hr; subst hr
    have := (World.ownsRow.lt ho k hk).1
    omega
theorem CloneAny_spec {va : Value} {n : Nat} {xs : List Int} {w : World} (hb : n ≤ 1048576) (ha : Sl w va 1 n (ints xs)) : Calls Try.prog 109 #[va] w (Post No w fun v H => H = [.own v 3 1 n (ints xs)]) := by
  rcases Nat.eq_zero_or_pos n with rfl | h0
  · have hx : xs = [] := by have := ha.len; exact List.length_eq_zero_iff.1 (by simpa [ints] using this)
    subst hx
    obtain ⟨A, c, rfl, _, _⟩ := ha.form0
    cases A with
    | none =>
      refine (Try.slices_Clone_int_nil 0 c w).mono ?_
      rintro e w' ⟨rfl, rfl⟩
      exact ⟨_, _, rfl, St.fresh1 ⟨rfl, .inl ⟨rfl, rfl⟩⟩ (Below.refl _ _), rfl⟩
    | some a =>
      refine (Try.slices_Clone_int_zero a c w).mono ?_
      rintro e w' ⟨v', rfl, ho, _, hbl⟩
      exact ⟨_, _, rfl, St.fresh1 ho hbl, rfl⟩
  · exact CloneInt_spec hb h0 ha

set_option maxHeartbeats 4000000 in
set_option maxRecDepth 20000 in
theorem gray_spec {va : Value} {n : Nat} {ms : List Nat} {w : World} (hn5 : n ≤ 5) (hm1 : ∀ m ∈ ms, 1 ≤ m ∧ m < 2 ^ n) (hml : ms.length ≤ 1000) (hms : Sl w va 1 ms.length (ints (nl ms))) : Calls Try.prog 82 #[.int .i64 (n : Int), va] w (Post No w fun v H => H = [.own v 71 3 (gG n ms).length (ints (flCX (gG n ms)))]) := by
 obtain ⟨q, hq⟩ : ∃ q : Nat, q = 2 ^ n := ⟨_, rfl⟩
 have hq32 : q ≤ 32 := by rw [hq]; exact Nat.le_trans (Nat.pow_le_pow_right (by omega) hn5) (by decide)
 have hq1 : 1 ≤ q := by rw [hq]; exact Nat.two_pow_pos _
 have hfmr : fm (List.range n) = q - 1 := by rw [hq]; exact fm_range n
 obtain ⟨f0, hf0⟩ : ∃ f0, f0 = 2 ^ (n + 1) := ⟨_, rfl⟩
 refine enter (n := 109) (args := [.int .i64 (((n : Nat) : Int)), va]) Try.func82 rfl rfl (St.empty _ _) ?_
 refine Run.sr ?_
 refine Run.p (.slice none 0 0) rfl rfl ?_
 refine Run.done ?_
 refine Run.seq ?_
 refine Run.cut (ι := Value × Value × Value) [5, 6, 15, 16, 17, 18, 19, 20, 21, 22] (fun ⟨vo, vt, uv⟩ => [(5, vo), (6, vt)]) (fun ⟨vo, vt, uv⟩ => [.own vo 71 3 0 ([]), .own vt 129 3 1 ([uv, .int .i64 ((fm (List.range n) : Nat) : Int), .int .i64 (-1)]), .own uv 3 1 (ms.length) (ints (nl ms))]) (fun ⟨vo, vt, uv⟩ => True) ?_ ?_
 ·refine Run.held (by kernel_rfl) ?_
  refine DW.take (i := 1) (v := va) rfl (by kernel_rfl) (by kernel_rfl) (by kernel_rfl) (fun _ _ _ h => h) (Weak.refl _) rfl (OpY.pure rfl) ?_
  refine DW.take (i := 3) (v := .int .i64 (((n : Nat) : Int))) rfl (by kernel_rfl) (by kernel_rfl) (by kernel_rfl) (fun _ _ _ h => h) (Weak.refl _) rfl (OpY.pure rfl) ?_
  refine DW.take (i := 4) (v := .int .i64 (((q : Nat) : Int))) rfl (by kernel_rfl) (by kernel_rfl) (by kernel_rfl) (fun _ _ _ h => h) (Weak.refl _) rfl (OpY.shlOne rfl rfl rfl (by omega) hq) ?_
  refine DW.take (i := 5) (v := .int .i64 (((fm (List.range n) : Nat) : Int))) rfl (by kernel_rfl) (by kernel_rfl) (by kernel_rfl) (fun _ _ _ h => h) (Weak.refl _) rfl (OpY.sub rfl rfl (by omega) (by omega) (by omega)) ?_
  refine DW.two (i := 0) (j := 2) (by kernel_rfl) rfl rfl rfl rfl ?_ ?_
  ·refine OpStep.buildSlice (us := []) Tsl_36 (by decide) (by decide) rfl rfl fun b1 => ?_
   refine ⟨(Some'.weak (.nil _)), ?_⟩
   refine DW.step (i := 2) (by kernel_rfl) rfl rfl (OpStep.call (vs := [va]) (caps := []) Tcall_109 rfl rfl (fun w hs => CloneAny_spec (by omega) (hs.sl hms)) ?_)
   rintro uc _ rfl
   refine ⟨(Some'.weak (.nil _)), ?_⟩
   refine DW.formOwn (.head _) (fun A_uc1 c_uc1 hv hcapc_uc1 hmaxc_uc1 => ?_)
   subst hv
   refine DW.take (i := 6) (v := .agg #[.slice A_uc1 (ms.length) c_uc1, .int .i64 (((fm (List.range n) : Nat) : Int)), .int .i64 (-1)]) rfl (by kernel_rfl) (by kernel_rfl) (by kernel_rfl) (fun _ _ _ h => h) (Some'.weak (.nil _)) rfl (OpY.build (cs := [.slice A_uc1 (ms.length) c_uc1, .int .i64 (((fm (List.range n) : Nat) : Int)), .int .i64 (-1)]) (by kernel_rfl)) ?_
   refine DW.take (i := 8) (v := .slice (some ⟨b1, 0, none⟩) 0 0) rfl (by kernel_rfl) (by kernel_rfl) (by kernel_rfl) (fun _ _ _ h => h) (Some'.weak (.nil _)) rfl (OpY.pure rfl) ?_
   refine DW.step (i := 7) (by kernel_rfl) rfl rfl (OpStep.buildSlice (us := [.slice A_uc1 (ms.length) c_uc1, .int .i64 (((fm (List.range n) : Nat) : Int)), .int .i64 (-1)]) Tsl_130 (by decide) (by decide) ⟨rfl, [.slice A_uc1 (ms.length) c_uc1, .int .i64 (((fm (List.range n) : Nat) : Int)), .int .i64 (-1)], _, rfl, rfl, rfl, rfl⟩ rfl fun b2 => ?_)
   refine ⟨(Some'.weak (.nil _)), ?_⟩
   refine DW.take (i := 9) (v := .slice (some ⟨b2, 0, none⟩) 1 1) rfl (by kernel_rfl) (by kernel_rfl) (by kernel_rfl) (fun _ _ _ h => h) (Some'.weak (.nil _)) rfl (OpY.pure rfl) ?_
   refine DW.done (by kernel_rfl) ?_
   refine Run.goal ⟨(by repeat (first | exact Same.refl _ _ | refine Same.put rfl ?_ | refine Same.over rfl rfl ?_)), (.slice (some ⟨b1, 0, none⟩) 0 0, .slice (some ⟨b2, 0, none⟩) 1 1, .slice A_uc1 (ms.length) c_uc1), ?_, ?_, ?_⟩
   ·trivial
   ·exact ⟨(by first | rfl | (congr 1; omega) | simp [*]), (by first | rfl | (congr 1; omega) | simp [*]), trivial⟩
   ·exact ((Weak.selF [2, 0, 0]).trans (Some'.weak (.takeEq (by first | rfl | simp) (.takeEq (by first | rfl | simp) (.takeEq (by first | rfl | simp) (.nil _))))))
  ·refine OpStep.call (vs := [va]) (caps := []) Tcall_109 rfl rfl (fun w hs => CloneAny_spec (by omega) (hs.sl hms)) ?_
   rintro uc _ rfl
   refine ⟨(Some'.weak (.nil _)), ?_⟩
   refine DW.formOwn (.head _) (fun A_uc2 c_uc2 hv hcapc_uc2 hmaxc_uc2 => ?_)
   subst hv
   refine DW.take (i := 6) (v := .agg #[.slice A_uc2 (ms.length) c_uc2, .int .i64 (((fm (List.range n) : Nat) : Int)), .int .i64 (-1)]) rfl (by kernel_rfl) (by kernel_rfl) (by kernel_rfl) (fun _ _ _ h => h) (Some'.weak (.nil _)) rfl (OpY.build (cs := [.slice A_uc2 (ms.length) c_uc2, .int .i64 (((fm (List.range n) : Nat) : Int)), .int .i64 (-1)]) (by kernel_rfl)) ?_
   refine DW.two (i := 0) (j := 7) (by kernel_rfl) rfl rfl rfl rfl ?_ ?_
   ·refine OpStep.buildSlice (us := []) Tsl_36 (by decide) (by decide) rfl rfl fun b3 => ?_
    refine ⟨(Some'.weak (.nil _)), ?_⟩
    refine DW.take (i := 8) (v := .slice (some ⟨b3, 0, none⟩) 0 0) rfl (by kernel_rfl) (by kernel_rfl) (by kernel_rfl) (fun _ _ _ h => h) (Some'.weak (.nil _)) rfl (OpY.pure rfl) ?_
    refine DW.step (i := 7) (by kernel_rfl) rfl rfl (OpStep.buildSlice (us := [.slice A_uc2 (ms.length) c_uc2, .int .i64 (((fm (List.range n) : Nat) : Int)), .int .i64 (-1)]) Tsl_130 (by decide) (by decide) ⟨rfl, [.slice A_uc2 (ms.length) c_uc2, .int .i64 (((fm (List.range n) : Nat) : Int)), .int .i64 (-1)], _, rfl, rfl, rfl, rfl⟩ rfl fun b4 => ?_)
    refine ⟨(Some'.weak (.nil _)), ?_⟩
    refine DW.take (i := 9) (v := .slice (some ⟨b4, 0, none⟩) 1 1) rfl (by kernel_rfl) (by kernel_rfl) (by kernel_rfl) (fun _ _ _ h => h) (Some'.weak (.nil _)) rfl (OpY.pure rfl) ?_
    refine DW.done (by kernel_rfl) ?_
    refine Run.goal ⟨(by repeat (first | exact Same.refl _ _ | refine Same.put rfl ?_ | refine Same.over rfl rfl ?_)), (.slice (some ⟨b3, 0, none⟩) 0 0, .slice (some ⟨b4, 0, none⟩) 1 1, .slice A_uc2 (ms.length) c_uc2), ?_, ?_, ?_⟩
    ·trivial
    ·exact ⟨(by first | rfl | (congr 1; omega) | simp [*]), (by first | rfl | (congr 1; omega) | simp [*]), trivial⟩
    ·exact ((Weak.selF [1, 0, 0]).trans (Some'.weak (.takeEq (by first | rfl | simp) (.takeEq (by first | rfl | simp) (.takeEq (by first | rfl | simp) (.nil _))))))
   ·refine OpStep.buildSlice (us := [.slice A_uc2 (ms.length) c_uc2, .int .i64 (((fm (List.range n) : Nat) : Int)), .int .i64 (-1)]) Tsl_130 (by decide) (by decide) ⟨rfl, [.slice A_uc2 (ms.length) c_uc2, .int .i64 (((fm (List.range n) : Nat) : Int)), .int .i64 (-1)], _, rfl, rfl, rfl, rfl⟩ rfl fun b5 => ?_
    refine ⟨(Some'.weak (.nil _)), ?_⟩
    refine DW.step (i := 0) (by kernel_rfl) rfl rfl (OpStep.buildSlice (us := []) Tsl_36 (by decide) (by decide) rfl rfl fun b6 => ?_)
    refine ⟨(Some'.weak (.nil _)), ?_⟩
    refine DW.take (i := 8) (v := .slice (some ⟨b6, 0, none⟩) 0 0) rfl (by kernel_rfl) (by kernel_rfl) (by kernel_rfl) (fun _ _ _ h => h) (Some'.weak (.nil _)) rfl (OpY.pure rfl) ?_
    refine DW.take (i := 9) (v := .slice (some ⟨b5, 0, none⟩) 1 1) rfl (by kernel_rfl) (by kernel_rfl) (by kernel_rfl) (fun _ _ _ h => h) (Some'.weak (.nil _)) rfl (OpY.pure rfl) ?_
    refine DW.done (by kernel_rfl) ?_
    refine Run.goal ⟨(by repeat (first | exact Same.refl _ _ | refine Same.put rfl ?_ | refine Same.over rfl rfl ?_)), (.slice (some ⟨b6, 0, none⟩) 0 0, .slice (some ⟨b5, 0, none⟩) 1 1, .slice A_uc2 (ms.length) c_uc2), ?_, ?_, ?_⟩
    ·trivial
    ·exact ⟨(by first | rfl | (congr 1; omega) | simp [*]), (by first | rfl | (congr 1; omega) | simp [*]), trivial⟩
    ·exact ((Weak.refl _).trans (Some'.weak (.takeEq (by first | rfl | simp) (.takeEq (by first | rfl | simp) (.takeEq (by first | rfl | simp) (.nil _))))))
 ·rintro ⟨vo, vt, uv⟩ fr hcut
  show Run _ _ (over _ _ [(5, vo), (6, vt)] fr) [.own vo 71 3 0 ([]), .own vt 129 3 1 ([uv, .int .i64 ((fm (List.range n) : Nat) : Int), .int .i64 (-1)]), .own uv 3 1 (ms.length) (ints (nl ms))]
  refine Run.seq ?_
  refine Run.block ?_
  refine Run.weak (H' := [.grp 3 1 (tg []), .own vo 71 3 0 ([]), .own vt 129 3 1 ([uv, .int .i64 ((fm (List.range n) : Nat) : Int), .int .i64 (-1)]), .own uv 3 1 (ms.length) (ints (nl ms))]) (Weak.grpNil _ _) ?_ ⟨_, _, rfl, fun _ => nofun, fun _ => nofun⟩
  refine Run.weak (H' := [.grp 3 1 (tg ([((uv : Value), ((.int .i64 ((fm (List.range n) : Nat) : Int) : Value), (ms, (List.range n, (-1 : Int)))))])), .own vo 71 3 0 ([]), .own vt 129 3 1 ([uv, .int .i64 ((fm (List.range n) : Nat) : Int), .int .i64 (-1)])]) ((Weak.selF [3, 0]).trans (Weak.tgSnoc (A := []) (z := ((uv : Value), ((.int .i64 ((fm (List.range n) : Nat) : Int) : Value), (ms, (List.range n, (-1 : Int)))))))) ?_ ⟨_, _, rfl, fun _ => nofun, fun _ => nofun⟩
  refine Run.loop (ι := Nat × List (Nat × Nat) × List TZ × Value × Value) ([5, 6, 7, 8, 9, 10, 11, 12, 13, 14, 23, 24, 25, 26, 27, 28, 29, 30, 31, 32, 33, 34, 35, 36, 37, 38, 39, 40, 41, 42, 43, 44, 45, 46, 47, 48, 49, 50, 51, 52, 53, 54, 55, 56, 57, 58, 59, 60, 61, 62] ++ [63, 64, 65, 66, 67, 68, 69, 70, 71, 72, 73, 74, 75, 76, 77, 78, 79, 80, 81, 82, 83, 84, 85, 86, 87, 88, 89, 90, 91, 92, 93, 94, 95, 96, 97, 98, 99, 100, 101, 102, 103, 104, 105, 106, 107]) (fun ⟨f, G, zs, vo, vt⟩ => [(5, vo), (6, vt)]) (fun ⟨f, G, zs, vo, vt⟩ => [.own vo 71 3 (G.length) (ints (flCX G)), .own vt 129 3 (zs.length) (tcells zs), .grp 3 1 (tg zs)]) (fun ⟨f, G, zs, vo, vt⟩ => GrI n ms G (gts zs) f ∧ ∀ z ∈ zs, z.2.1 = .int .i64 ((fm z.2.2.2.1 : Nat) : Int)) (fun ⟨f, G, zs, vo, vt⟩ => f) (f0, [], [((uv : Value), ((.int .i64 ((fm (List.range n) : Nat) : Int) : Value), (ms, (List.range n, (-1 : Int)))))], vo, vt) ?_ ?_ ?_ ?_
  ·exact ⟨hf0 ▸ GrI.start hm1 hn5 hml, fun z hz => by simp only [List.mem_singleton] at hz; subst hz; rfl⟩
  ·exact ⟨rfl, rfl, trivial⟩
  ·exact ((Weak.selF [1, 1, 0]).trans (Some'.weak (.takeEq (by first | rfl | simp) (.takeEq (by first | rfl | simp) (.takeEq (by first | rfl | simp) (.nil _))))))
  ·rintro ⟨f, G, zs, vo, vt⟩ fr hinv
   show Run _ _ (over _ _ [(5, vo), (6, vt)] fr) [.own vo 71 3 (G.length) (ints (flCX G)), .own vt 129 3 (zs.length) (tcells zs), .grp 3 1 (tg zs)]
   try dsimp only at hinv
   refine Run.seq ?_
   refine Run.sr ?_
   refine Run.p (vt) rfl rfl ?_
   refine Run.formOwn (.tail _ (List.Mem.head _)) (fun A_vt1 c_vt1 hv hcapc_vt1 hmaxc_vt1 => ?_) (fun _ _ _ => ⟨nofun, nofun, nofun⟩)
   subst hv
   refine Run.y (.int .i64 (((zs.length : Nat) : Int))) rfl (OpY.len Tsl_130 rfl) ?_
   refine Run.p (.bool (decide ((((zs.length : Nat) : Int)) > 0))) rfl rfl ?_
   refine Run.done ?_
   refine Run.cond (b := decide ((((zs.length : Nat) : Int)) > 0)) rfl (fun h25 => ?_) (fun h25 => ?_)
   ·have p25 := h25; try simp only [bs] at p25
    have hzl : 0 < zs.length := by omega
    obtain ⟨hgr, hfm⟩ := hinv
    obtain ⟨f2, rfl⟩ := hgr.pos (by simpa using hzl)
    obtain ⟨m, hm⟩ : ∃ m, zs.length = m + 1 := ⟨zs.length - 1, by omega⟩
    obtain ⟨⟨zv, ⟨zf, ⟨vs, ⟨fq, t⟩⟩⟩⟩, hz⟩ : ∃ z, zs[m]? = some z := ⟨_, List.getElem?_eq_getElem (by omega)⟩
    have hzf : zf = .int .i64 ((fm fq : Nat) : Int) := hfm _ (List.mem_of_getElem? hz)
    subst hzf
    have hzs := snoc_take hm hz
    have hgt : gts zs = gts (zs.take m) ++ [(vs, fq, t)] := gts_split hm hz
    have hgr2 := hgr
    rw [hgt] at hgr2
    have hnx := hgr2.next (fun m hm => (hm1 m hm).1) hn5
    have hgi := hgr2.gi
    have h63a := mu_len (gts zs)
    have h63b := hgr.len
    have h63c : (gts zs).length = zs.length := by simp
    have hsl63 : zs.length ≤ 63 := by omega
    have hGl : G.length ≤ 252 := by have := hgr.len; omega
    have hvl : vs.length ≤ 1000 := hgr.vl (vs, fq, t) (by rw [hgt]; simp)
    have hasc : fq.Pairwise (· < ·) := hgr.asc (vs, fq, t) (by rw [hgt]; simp)
    have htok := hgi.tok (vs, fq, t) (by simp)
    have hfq5 : ∀ j ∈ fq, j < 5 := fun j hj => by have : j < n := htok.lt j hj; omega
    refine Run.openOwn (.tail _ (List.Mem.head _)) (by omega) (fun gt ct hvgt hcapgt _ => ?_) (fun _ _ _ => ⟨nofun, nofun, nofun⟩)
    injection hvgt with hAgt _ hcgt; subst hAgt; subst hcgt
    refine Run.formMem (.tail _ (.tail _ (List.Mem.head _))) (tg_mem hz) (fun gA gc hgv => ?_) (fun _ _ _ => ⟨nofun, nofun, nofun⟩)
    simp only [tm] at hgv
    subst hgv
    refine Run.skip ?_
    refine Run.block ?_
    refine Run.sr ?_
    refine Run.p (.slice (some ⟨gt, 0, none⟩) (zs.length) c_vt1) rfl rfl ?_
    refine Run.y (.int .i64 (((zs.length : Nat) : Int))) rfl (OpY.len Tsl_130 rfl) ?_
    refine Run.y (.int .i64 (((m : Nat) : Int))) rfl (OpY.sub rfl rfl (by omega) (by omega) (by omega)) ?_
    refine Run.p (.int .i64 (((m : Nat) : Int))) rfl rfl ?_
    refine Run.dsr ?_
    refine Run.p (.slice (some ⟨gt, 0, none⟩) (zs.length) c_vt1) rfl rfl ?_
    refine Run.p (.int .i64 (((m : Nat) : Int))) rfl rfl ?_
    refine Run.y (.pointer (some ⟨gt, m * 3, none⟩)) rfl (OpY.index (kk := m) Tsl_130 rfl rfl (by omega) (by omega) (by first | rfl | omega)) ?_
    refine Run.y (.agg #[.slice gA (vs.length) gc, .int .i64 (((fm fq : Nat) : Int)), .int .i64 t]) rfl (OpY.loadN (cs := [.slice gA (vs.length) gc, .int .i64 (((fm fq : Nat) : Int)), .int .i64 t]) Tagg_129 rfl (Cells.own0 (.tail _ (List.Mem.head _)) (preT hz))) ?_
    refine Run.step rfl (OpStep.alloc (zs := [.slice none 0 0, .int .i64 0, .int .i64 0]) Tzero_129 fun b7 => ?_)
    refine Run.step rfl (OpStep.storeAll (us := [.slice gA (vs.length) gc, .int .i64 (((fm fq : Nat) : Int)), .int .i64 t]) Tsize_129 rfl rfl rfl (.here _) rfl ?_)
    refine Run.done ?_
    refine Run.seq ?_
    refine Run.sr ?_
    refine Run.y (.pointer (some ⟨b7, 0, none⟩)) rfl (OpY.fieldAddr Tfo_129_0 rfl rfl) ?_
    refine Run.y (.slice gA (vs.length) gc) rfl (OpY.load1 Tone_22 rfl (Cells.blk (.head _) ⟨rfl, trivial⟩)) ?_
    refine Run.y (.int .i64 (((vs.length : Nat) : Int))) rfl (OpY.len Tsl_22 rfl) ?_
    refine Run.p (.bool ((((vs.length : Nat) : Int)) == 0)) rfl rfl ?_
    refine Run.done ?_
    refine Run.cond (b := (((vs.length : Nat) : Int)) == 0) rfl (fun h36 => ?_) (fun h36 => ?_)
    ·have p36 := h36; try simp only [bs] at p36
     have hv0 : vs = [] := List.length_eq_zero_iff.1 (by omega)
     rw [hv0, gstp_nil] at hnx
     refine Run.sr ?_
     refine Run.p (.slice (some ⟨gt, 0, none⟩) (zs.length) c_vt1) rfl rfl ?_
     refine Run.p (.int .i64 (((m : Nat) : Int))) rfl rfl ?_
     refine Run.y (.slice (some ⟨gt, 0, none⟩) m c_vt1) rfl (OpY.sliceHN (h := m) Tsl_130 rfl rfl (by omega) (by omega)) ?_
     refine Run.p (.slice (some ⟨gt, 0, none⟩) m c_vt1) rfl rfl ?_
     refine Run.done ?_
     refine Run.weak (H' := [.own (.slice (some ⟨gt, 0, none⟩) m c_vt1) 129 3 ((zs.take m).length) (tcells (zs.take m)), .blk b7 129 [.slice gA (vs.length) gc, .int .i64 (((fm fq : Nat) : Int)), .int .i64 t], .own vo 71 3 (G.length) (ints (flCX G)), .grp 3 1 (tg zs)]) ((Weak.selF [2]).trans ((Weak.refl _).trans ((Weak.ownTake (m := m) (by omega)).trans (Some'.weak (.takeEq (by rw [tcells_take (by omega), List.length_take, Nat.min_eq_left (by omega)]) (.take (.take (.take (.nil _))))))))) ?_ ⟨_, _, rfl, fun _ => nofun, fun _ => nofun⟩
     refine Run.weak (H' := [.grp 3 1 (tg (zs.take m)), .own (.slice (some ⟨gt, 0, none⟩) m c_vt1) 129 3 ((zs.take m).length) (tcells (zs.take m)), .blk b7 129 [.slice gA (vs.length) gc, .int .i64 (((fm fq : Nat) : Int)), .int .i64 t], .own vo 71 3 (G.length) (ints (flCX G))]) ((Weak.selF [3]).trans (Weak.tgInit (by omega))) ?_ ⟨_, _, rfl, fun _ => nofun, fun _ => nofun⟩
     refine Run.exit rfl ?_
     refine Run.goal ⟨(by repeat (first | exact Same.refl _ _ | refine Same.put rfl ?_ | refine Same.over rfl rfl ?_)), (f2, G, ((zs.take m)), vo, .slice (some ⟨gt, 0, none⟩) m c_vt1), ?_, ?_, ?_, ?_⟩
     ·first | exact ⟨hnx, fun z hz => hfm z (List.mem_of_mem_take hz)⟩ | exact ⟨hnx, fun z hz => hfm2 z (List.mem_of_mem_take hz)⟩ | exact ⟨by rw [gts_go]; exact hnx, fm_go (fun z hz => hfm2 z (List.mem_of_mem_take hz)) rfl rfl⟩
     ·show f2 < f2 + 1; omega
     ·exact ⟨(by first | rfl | (congr 1; omega) | simp), (by first | rfl | (congr 1; omega) | simp), trivial⟩
     ·exact ((Weak.selF [3, 1, 0]).trans (Some'.weak (.takeEq (by first | rfl | simp) (.takeEq (by first | rfl | simp) (.takeEq (by first | rfl | simp) (.nil _))))))
    ·have p36 := h36; try simp only [bs] at p36
     have hvne : vs ≠ [] := by
      intro h
      rw [h] at p36
      exact p36 rfl
     refine Run.skip ?_
     refine Run.seq ?_
     refine Run.sr ?_
     refine Run.p (.int .i64 0) rfl rfl ?_
     refine Run.done ?_
     refine Run.cut (ι := List (Nat × Nat) × List TZ × Value) [5, 9, 40, 41, 42, 43, 44, 45, 46, 47, 48, 49, 50, 51, 52, 53, 54, 55, 56, 57, 58, 59, 60, 61, 62, 63, 64, 65, 66, 67, 68, 69, 70, 71] (fun ⟨G2, zs2, vo2⟩ => [(5, vo2)]) (fun ⟨G2, zs2, vo2⟩ => [.blk b7 129 [.slice gA (vs.length) gc, .int .i64 (((fm fq : Nat) : Int)), .int .i64 t], .own vo2 71 3 (G2.length) (ints (flCX G2)), .own (.slice (some ⟨gt, 0, none⟩) (zs.length) c_vt1) 129 3 (zs2.length) (tcells zs2), .grp 3 1 (tg zs2)]) (fun ⟨G2, zs2, vo2⟩ => LpI fq t zs (gz t n (G, gts (zs.take m), vs)) G2 zs2) ?_ ?_
     ·refine Run.block ?_
      refine Run.loop (ι := Nat × List (Nat × Nat) × List TZ × Value) [5, 9, 40, 41, 42, 43, 44, 45, 46, 47, 48, 49, 50, 51, 52, 53, 54, 55, 56, 57, 58, 59, 60, 61, 62, 63, 64, 65, 66, 67, 68, 69, 70, 71] (fun ⟨j, G2, zs2, vo2⟩ => [(5, vo2), (9, .int .i64 (((j : Nat) : Int)))]) (fun ⟨j, G2, zs2, vo2⟩ => [.blk b7 129 [.slice gA (vs.length) gc, .int .i64 (((fm fq : Nat) : Int)), .int .i64 t], .own vo2 71 3 (G2.length) (ints (flCX G2)), .own (.slice (some ⟨gt, 0, none⟩) (zs.length) c_vt1) 129 3 (zs2.length) (tcells zs2), .grp 3 1 (tg zs2)]) (fun ⟨j, G2, zs2, vo2⟩ => j ≤ n ∧ LpI fq t zs (gz t j (G, gts (zs.take m), vs)) G2 zs2) (fun ⟨j, G2, zs2, vo2⟩ => n - j) (0, G, zs, vo) ?_ ?_ ?_ ?_
      ·exact ⟨Nat.zero_le _, LpI.init hm hz⟩
      ·exact ⟨rfl, rfl, trivial⟩
      ·exact ((Weak.refl _).trans (Some'.weak (.take (.takeEq (by first | rfl | (rw [tcells_add, List.length_map]) | simp) (.takeEq (by first | rfl | (rw [tcells_add, List.length_map]) | simp) (.takeEq (by first | rfl | (rw [tcells_add, List.length_map]) | simp) (.nil _)))))))
      ·rintro ⟨j, G2, zs2, vo2⟩ fr hinv
       show Run _ _ (over _ _ [(5, vo2), (9, .int .i64 (((j : Nat) : Int)))] fr) [.blk b7 129 [.slice gA (vs.length) gc, .int .i64 (((fm fq : Nat) : Int)), .int .i64 t], .own vo2 71 3 (G2.length) (ints (flCX G2)), .own (.slice (some ⟨gt, 0, none⟩) (zs.length) c_vt1) 129 3 (zs2.length) (tcells zs2), .grp 3 1 (tg zs2)]
       try dsimp only at hinv
       refine Run.seq ?_
       refine Run.sr ?_
       refine Run.p (.int .i64 (((j : Nat) : Int))) rfl rfl ?_
       refine Run.p (.int .i64 (((n : Nat) : Int))) rfl rfl ?_
       refine Run.p (.bool (decide ((((j : Nat) : Int)) < (((n : Nat) : Int))))) rfl rfl ?_
       rcases Bool.eq_false_or_eq_true (decide ((((j : Nat) : Int)) < (((n : Nat) : Int)))) with h43 | h43
       ·refine Run.q (v := .bool true) rfl (OpQ.y (OpY.moveB rfl h43)) ?_
        have p43 := h43; try simp only [bs] at p43
        refine Run.y (.pointer (some ⟨b7, 2, none⟩)) rfl (OpY.fieldAddr Tfo_129_2 rfl rfl) ?_
        refine Run.y (.int .i64 t) rfl (OpY.load1 Tone_3 rfl (Cells.blk (.head _) ⟨rfl, trivial⟩)) ?_
        refine Run.p (.bool (decide (t ≥ 0))) rfl rfl ?_
        refine Run.p (.bool (decide (t ≥ 0))) rfl rfl ?_
        refine Run.done ?_
        refine Run.cond (b := decide (t ≥ 0)) rfl (fun h47 => ?_) (fun h47 => ?_)
        ·have p47 := h47; try simp only [bs] at p47
         have h0t : 0 ≤ t := by omega
         obtain ⟨tn, htn⟩ : ∃ tn : Nat, t = (tn : Int) := ⟨t.toNat, by omega⟩
         obtain ⟨_, hlp⟩ := hinv
         have hjn : j < n := by omega
         have hgz := gz_ok hgi hvne (show j ≤ n by omega)
         have hz2 := hlp.at hm hz
         have hl2 := hlp.len
         have hGl2 : G2.length ≤ 300 := by have h := hgz.2.2; rw [← hlp.g] at h; omega
         have htn5 : tn ≤ 5 := by have h := (htok.tgt h0t).1; simp only [htn, Int.toNat_natCast] at h; omega
         have hsame := hlp.same hm hz
         have hfm2 : ∀ z ∈ zs2, z.2.1 = .int .i64 ((fm z.2.2.2.1 : Nat) : Int) := fun z hz => by obtain ⟨y, hy, _, e2, _, e4⟩ := hsame z hz; rw [e2, e4]; exact hfm y hy
         have hvl2 : ∀ z ∈ zs2, z.2.2.1.length ≤ 1000 := fun z hz => by obtain ⟨y, hy, _, _, e3, _⟩ := hsame z hz; rw [e3]; exact hgr.vl y.2.2 (List.mem_map.2 ⟨y, hy, rfl⟩)
         have hlt2 := gi_lt (G := (gz t j (G, gts (zs.take m), vs)).1) (zs := zs2) (by rw [hlp.ts]; exact hgz.1) hn5
         have hlp2 : LpI fq (tn : Int) zs (gz (tn : Int) j (G, gts (zs.take m), vs)) G2 zs2 := by rw [← htn]; exact hlp
         refine Run.skip ?_
         refine Run.seq ?_
         refine Run.block ?_
         refine Run.sr ?_
         refine Run.p (.int .i64 (((j : Nat) : Int))) rfl rfl ?_
         refine Run.y (.pointer (some ⟨b7, 2, none⟩)) rfl (OpY.fieldAddr Tfo_129_2 rfl rfl) ?_
         refine Run.y (.int .i64 t) rfl (OpY.load1 Tone_3 rfl (Cells.blk (.head _) ⟨rfl, trivial⟩)) ?_
         refine Run.p (.bool ((((j : Nat) : Int)) != t)) rfl rfl ?_
         rcases Bool.eq_false_or_eq_true ((((j : Nat) : Int)) != t) with h54 | h54
         ·refine Run.q (v := .bool true) rfl (OpQ.y (OpY.moveB rfl h54)) ?_
          have p54 := h54; try simp only [bs] at p54
          have hne : j ≠ tn := by omega
          refine Run.y (.pointer (some ⟨b7, 0, none⟩)) rfl (OpY.fieldAddr Tfo_129_0 rfl rfl) ?_
          refine Run.y (.slice gA (vs.length) gc) rfl (OpY.load1 Tone_22 rfl (Cells.blk (.head _) ⟨rfl, trivial⟩)) ?_
          refine Run.p (.int .i64 (((j : Nat) : Int))) rfl rfl ?_
          refine Run.q (v := .bool (((gz t j (G, gts (zs.take m), vs)).2.2.all fun v => v.testBit j))) rfl (OpQ.call (vs := [.slice gA (vs.length) gc, .int .i64 (((j : Nat) : Int))]) (caps := []) Tcall_117 rfl rfl (fun w hs => (by have h := inAll_spec (vs := (gz t j (G, gts (zs.take m), vs)).2.2) (j := j) (by omega) (hs.slGrpR (.tail _ (.tail _ (.tail _ (List.Mem.head _)))) (tg_mem hz2)); exact h))) ?_
          refine Run.p (.bool (((gz t j (G, gts (zs.take m), vs)).2.2.all fun v => v.testBit j))) rfl rfl ?_
          refine Run.done ?_
          refine Run.cond (b := ((gz t j (G, gts (zs.take m), vs)).2.2.all fun v => v.testBit j)) rfl (fun h59 => ?_) (fun h59 => ?_)
          ·have p59 := h59; try simp only [bs] at p59
           have hall : ((gz t j (G, gts (zs.take m), vs)).2.2.all fun v => v.testBit j) = true := by simpa using h59
           have hadd := hlp2.add hne (by rw [← htn]; exact hall)
           rw [← htn] at hadd
           refine Run.sr ?_
           refine Run.p (vo2) rfl rfl ?_
           refine Run.p (.int .i64 (((j : Nat) : Int))) rfl rfl ?_
           refine Run.y (.pointer (some ⟨b7, 2, none⟩)) rfl (OpY.fieldAddr Tfo_129_2 rfl rfl) ?_
           refine Run.y (.int .i64 t) rfl (OpY.load1 Tone_3 rfl (Cells.blk (.head _) ⟨rfl, trivial⟩)) ?_
           refine Run.y (.agg #[.int .i64 9, .int .i64 (((j : Nat) : Int)), .int .i64 t]) rfl (OpY.build (cs := [.int .i64 9, .int .i64 (((j : Nat) : Int)), .int .i64 t]) (by kernel_rfl)) ?_
           refine Run.step rfl (OpStep.buildSlice (us := [.int .i64 9, .int .i64 (((j : Nat) : Int)), .int .i64 t]) Tsl_36 (by decide) (by decide) ⟨rfl, [.int .i64 9, .int .i64 (((j : Nat) : Int)), .int .i64 t], _, rfl, rfl, rfl, rfl⟩ rfl fun b8 => ?_)
           refine Run.step rfl (OpStep.append (H1 := [.own (.slice (some ⟨b8, 0, none⟩) 1 1) 71 3 1 ([.int .i64 9, .int .i64 (((j : Nat) : Int)), .int .i64 t]), .blk b7 129 [.slice gA (vs.length) gc, .int .i64 (((fm fq : Nat) : Int)), .int .i64 t]]) (H2 := [.own (.slice (some ⟨gt, 0, none⟩) (zs.length) c_vt1) 129 3 (zs2.length) (tcells zs2), .grp 3 1 (tg zs2)]) (v := vo2) (u := .slice (some ⟨b8, 0, none⟩) 1 1) (n := G2.length) (m := 1) (xs := ints (flCX G2)) (ys := [.int .i64 9, .int .i64 (((j : Nat) : Int)), .int .i64 t]) Tsl_36 (by decide) rfl rfl rfl rfl (fun w hs => hs.slOwn (.head _)) (by simp [Value.oneCell']) (by omega) (by simp only [maxLen]; omega) fun av1 hnav1 => ?_)
           refine Run.weak (H' := [.own (.slice (some ⟨b8, 0, none⟩) 1 1) 71 3 1 ([.int .i64 9, .int .i64 (((j : Nat) : Int)), .int .i64 t]), .blk b7 129 [.slice gA (vs.length) gc, .int .i64 (((fm fq : Nat) : Int)), .int .i64 t], .own av1 71 3 ((G2 ++ [(j, tn)]).length) (ints (flCX (G2 ++ [(j, tn)]))), .own (.slice (some ⟨gt, 0, none⟩) (zs.length) c_vt1) 129 3 (zs2.length) (tcells zs2), .grp 3 1 (tg zs2)]) (Some'.weak (.take (.take (.takeEq (by rw [ints_flCX_snoc _ _ _ _ htn, List.length_append]; rfl) (.take (.take (.nil _))))))) ?_ ⟨_, _, rfl, fun _ => nofun, fun _ => nofun⟩
           refine Run.p (av1) rfl rfl ?_
           refine Run.dr ?_
           refine Run.p (.slice (some ⟨gt, 0, none⟩) (zs.length) c_vt1) rfl rfl ?_
           refine Run.p (.int .i64 (((j : Nat) : Int))) rfl rfl ?_
           refine Run.y (.pointer (some ⟨b7, 2, none⟩)) rfl (OpY.fieldAddr Tfo_129_2 rfl rfl) ?_
           refine Run.y (.int .i64 t) rfl (OpY.load1 Tone_3 rfl (Cells.blk (.tail _ (List.Mem.head _)) ⟨rfl, trivial⟩)) ?_
           refine Run.step rfl (OpStep.callM (H1 := [.own (.slice (some ⟨gt, 0, none⟩) (zs.length) c_vt1) 129 3 (zs2.length) (tcells zs2), .grp 3 1 (tg zs2)]) (H2 := [.own (.slice (some ⟨b8, 0, none⟩) 1 1) 71 3 1 ([.int .i64 9, .int .i64 (((j : Nat) : Int)), .int .i64 t]), .blk b7 129 [.slice gA (vs.length) gc, .int .i64 (((fm fq : Nat) : Int)), .int .i64 t], .own av1 71 3 ((G2 ++ [(j, tn)]).length) (ints (flCX (G2 ++ [(j, tn)])))]) (vs := [.slice (some ⟨gt, 0, none⟩) (zs.length) c_vt1, .int .i64 (((j : Nat) : Int)), .int .i64 t]) (caps := []) Tcall_118 rfl rfl (Weak.selF [3, 3]) (fun w hs => (by have h := grayInv_spec (j := j) (t := tn) (by omega) (by omega) hlt2 hvl2 hfm2 (hs.sub (List.sublist_append_left _ _)).self; rw [← htn] at h; exact h)) ?_)
           rintro _ _ ⟨rfl, rfl⟩
           show Run _ _ (putF _ _ _ (.tuple #[])) [.own (.slice (some ⟨gt, 0, none⟩) (zs.length) c_vt1) 129 3 (zs2.length) (tcells zs2), .grp 3 1 (tg (( zs2).map (addZ j tn))), .own (.slice (some ⟨b8, 0, none⟩) 1 1) 71 3 1 ([.int .i64 9, .int .i64 (((j : Nat) : Int)), .int .i64 t]), .blk b7 129 [.slice gA (vs.length) gc, .int .i64 (((fm fq : Nat) : Int)), .int .i64 t], .own av1 71 3 ((G2 ++ [(j, tn)]).length) (ints (flCX (G2 ++ [(j, tn)])))]
           refine Run.done ?_
           refine Run.blockEnd ?_
           refine Run.region ?_
           refine Run.p (.int .i64 (((j : Nat) : Int))) rfl rfl ?_
           refine Run.y (.int .i64 ((((j : Nat) : Int)) + 1)) rfl (OpY.add rfl rfl rfl (by omega) (by omega)) ?_
           refine Run.p (.int .i64 ((((j : Nat) : Int)) + 1)) rfl rfl ?_
           refine Run.done ?_
           refine Run.goal ⟨(by repeat (first | exact Same.refl _ _ | refine Same.put rfl ?_ | refine Same.over rfl rfl ?_)), (j + 1, (G2 ++ [(j, tn)]), ((( zs2).map (addZ j tn))), av1), ?_, ?_, ?_, ?_⟩
           ·first | exact ⟨by omega, hadd⟩ | exact ⟨by omega, by rw [hstay]; exact hlp⟩
           ·show n - (j + 1) < n - j; omega
           ·exact ⟨(by first | rfl | (congr 1; omega) | simp), (by first | rfl | (congr 1; omega) | simp), trivial⟩
           ·exact ((Weak.selF [3, 3, 0, 0]).trans (Some'.weak (.take (.takeEq (by first | rfl | (rw [tcells_add, List.length_map]) | simp) (.takeEq (by first | rfl | (rw [tcells_add, List.length_map]) | simp) (.takeEq (by first | rfl | (rw [tcells_add, List.length_map]) | simp) (.nil _)))))))
          ·have p59 := h59; try simp only [bs] at p59
           have hstay : gz t (j + 1) (G, gts (zs.take m), vs) = gz t j (G, gts (zs.take m), vs) := by rw [htn]; exact gz_pass (.inr (by rw [← htn]; simpa using h59))
           refine Run.skip ?_
           refine Run.blockEnd ?_
           refine Run.region ?_
           refine Run.p (.int .i64 (((j : Nat) : Int))) rfl rfl ?_
           refine Run.y (.int .i64 ((((j : Nat) : Int)) + 1)) rfl (OpY.add rfl rfl rfl (by omega) (by omega)) ?_
           refine Run.p (.int .i64 ((((j : Nat) : Int)) + 1)) rfl rfl ?_
           refine Run.done ?_
           refine Run.goal ⟨(by repeat (first | exact Same.refl _ _ | refine Same.put rfl ?_ | refine Same.over rfl rfl ?_)), (j + 1, G2, zs2, vo2), ?_, ?_, ?_, ?_⟩
           ·first | exact ⟨by omega, hadd⟩ | exact ⟨by omega, by rw [hstay]; exact hlp⟩
           ·show n - (j + 1) < n - j; omega
           ·exact ⟨(by first | rfl | (congr 1; omega) | simp), (by first | rfl | (congr 1; omega) | simp), trivial⟩
           ·exact ((Weak.refl _).trans (Some'.weak (.take (.takeEq (by first | rfl | (rw [tcells_add, List.length_map]) | simp) (.takeEq (by first | rfl | (rw [tcells_add, List.length_map]) | simp) (.takeEq (by first | rfl | (rw [tcells_add, List.length_map]) | simp) (.nil _)))))))
         ·refine Run.q (v := .bool false) rfl (OpQ.y (OpY.moveB rfl h54)) ?_
          have p54 := h54; try simp only [bs] at p54
          have hstay : gz t (j + 1) (G, gts (zs.take m), vs) = gz t j (G, gts (zs.take m), vs) := by rw [htn]; exact gz_pass (.inl (by omega))
          refine Run.pass rfl ?_
          refine Run.pass rfl ?_
          refine Run.pass rfl ?_
          refine Run.pass rfl ?_
          refine Run.p (.bool false) rfl rfl ?_
          refine Run.done ?_
          refine Run.cond (b := false) rfl (fun h => nomatch h) (fun _ => ?_)
          refine Run.skip ?_
          refine Run.blockEnd ?_
          refine Run.region ?_
          refine Run.p (.int .i64 (((j : Nat) : Int))) rfl rfl ?_
          refine Run.y (.int .i64 ((((j : Nat) : Int)) + 1)) rfl (OpY.add rfl rfl rfl (by omega) (by omega)) ?_
          refine Run.p (.int .i64 ((((j : Nat) : Int)) + 1)) rfl rfl ?_
          refine Run.done ?_
          refine Run.goal ⟨(by repeat (first | exact Same.refl _ _ | refine Same.put rfl ?_ | refine Same.over rfl rfl ?_)), (j + 1, G2, zs2, vo2), ?_, ?_, ?_, ?_⟩
          ·first | exact ⟨by omega, hadd⟩ | exact ⟨by omega, by rw [hstay]; exact hlp⟩
          ·show n - (j + 1) < n - j; omega
          ·exact ⟨(by first | rfl | (congr 1; omega) | simp), (by first | rfl | (congr 1; omega) | simp), trivial⟩
          ·exact ((Weak.refl _).trans (Some'.weak (.take (.takeEq (by first | rfl | (rw [tcells_add, List.length_map]) | simp) (.takeEq (by first | rfl | (rw [tcells_add, List.length_map]) | simp) (.takeEq (by first | rfl | (rw [tcells_add, List.length_map]) | simp) (.nil _)))))))
        ·have p47 := h47; try simp only [bs] at p47
         have hfinal : LpI fq t zs (gz t n (G, gts (zs.take m), vs)) G2 zs2 := by have h := hinv.2; rw [gz_neg (by omega)] at h ⊢; exact h
         refine Run.exit rfl ?_
         refine Run.goal ⟨(by repeat (first | exact Same.refl _ _ | refine Same.put rfl ?_ | refine Same.over rfl rfl ?_)), (G2, zs2, vo2), ?_, ?_, ?_⟩
         ·exact hfinal
         ·exact ⟨(by first | rfl | (congr 1; omega) | simp [*]), trivial⟩
         ·exact ((Weak.refl _).trans (Some'.weak (.take (.takeEq (by first | rfl | simp) (.takeEq (by first | rfl | simp) (.takeEq (by first | rfl | simp) (.nil _)))))))
       ·refine Run.q (v := .bool false) rfl (OpQ.y (OpY.moveB rfl h43)) ?_
        have p43 := h43; try simp only [bs] at p43
        have hfinal : LpI fq t zs (gz t n (G, gts (zs.take m), vs)) G2 zs2 := (show j = n by omega) ▸ hinv.2
        refine Run.pass rfl ?_
        refine Run.pass rfl ?_
        refine Run.pass rfl ?_
        refine Run.p (.bool false) rfl rfl ?_
        refine Run.done ?_
        refine Run.cond (b := false) rfl (fun h => nomatch h) (fun _ => ?_)
        refine Run.exit rfl ?_
        refine Run.goal ⟨(by repeat (first | exact Same.refl _ _ | refine Same.put rfl ?_ | refine Same.over rfl rfl ?_)), (G2, zs2, vo2), ?_, ?_, ?_⟩
        ·exact hfinal
        ·exact ⟨(by first | rfl | (congr 1; omega) | simp [*]), trivial⟩
        ·exact ((Weak.refl _).trans (Some'.weak (.take (.takeEq (by first | rfl | simp) (.takeEq (by first | rfl | simp) (.takeEq (by first | rfl | simp) (.nil _)))))))
     ·rintro ⟨G2, zs2, vo2⟩ fr hcut
      show Run _ _ (over _ _ [(5, vo2)] fr) [.blk b7 129 [.slice gA (vs.length) gc, .int .i64 (((fm fq : Nat) : Int)), .int .i64 t], .own vo2 71 3 (G2.length) (ints (flCX G2)), .own (.slice (some ⟨gt, 0, none⟩) (zs.length) c_vt1) 129 3 (zs2.length) (tcells zs2), .grp 3 1 (tg zs2)]
      have hfinal := hcut
      have hz3 := hfinal.at hm hz
      have hgzn := gz_ok hgi hvne (Nat.le_refl n)
      have hl3 := hfinal.len
      have hl3t : (zs2.take m).length = m := by rw [List.length_take]; omega
      have hS3 := hfinal.take hm
      have hV : (gz t n (G, gts (zs.take m), vs)).2.2.length = vs.length := (gz_keep t n (G, gts (zs.take m), vs)).1
      have hsame := hfinal.same hm hz
      have hfm2 : ∀ z ∈ zs2, z.2.1 = .int .i64 ((fm z.2.2.2.1 : Nat) : Int) := fun z hz => by obtain ⟨y, hy, _, e2, _, e4⟩ := hsame z hz; rw [e2, e4]; exact hfm y hy
      have hvl2 : ∀ z ∈ zs2, z.2.2.1.length ≤ 1000 := fun z hz => by obtain ⟨y, hy, _, _, e3, _⟩ := hsame z hz; rw [e3]; exact hgr.vl y.2.2 (List.mem_map.2 ⟨y, hy, rfl⟩)
      refine Run.sr ?_
      refine Run.p (.slice (some ⟨gt, 0, none⟩) (zs.length) c_vt1) rfl rfl ?_
      refine Run.p (.int .i64 (((m : Nat) : Int))) rfl rfl ?_
      refine Run.y (.slice (some ⟨gt, 0, none⟩) m c_vt1) rfl (OpY.sliceHN (h := m) Tsl_130 rfl rfl (by omega) (by omega)) ?_
      refine Run.p (.slice (some ⟨gt, 0, none⟩) m c_vt1) rfl rfl ?_
      refine Run.done ?_
      refine Run.weak (H' := [.own (.slice (some ⟨gt, 0, none⟩) m c_vt1) 129 3 ((zs2.take m).length) (tcells (zs2.take m)), .blk b7 129 [.slice gA (vs.length) gc, .int .i64 (((fm fq : Nat) : Int)), .int .i64 t], .own vo2 71 3 (G2.length) (ints (flCX G2)), .grp 3 1 (tg zs2)]) ((Weak.selF [2]).trans ((Some'.weak (.takeEq (by rw [hl3]) (.take (.take (.take (.nil _)))))).trans ((Weak.ownTake (m := m) (by omega)).trans (Some'.weak (.takeEq (by rw [tcells_take (by omega), List.length_take, Nat.min_eq_left (by omega)]) (.take (.take (.take (.nil _))))))))) ?_ ⟨_, _, rfl, fun _ => nofun, fun _ => nofun⟩
      refine Run.sr ?_
      refine Run.y (.agg #[.slice gA (vs.length) gc, .int .i64 (((fm fq : Nat) : Int)), .int .i64 t]) rfl (OpY.loadN (cs := [.slice gA (vs.length) gc, .int .i64 (((fm fq : Nat) : Int)), .int .i64 t]) Tagg_129 rfl (Cells.blk (.tail _ (List.Mem.head _)) ⟨rfl, rfl, rfl, trivial⟩)) ?_
      refine Run.q (v := .int .i64 (brn (gz t n (G, gts (zs.take m), vs)).2.2 fq)) rfl (OpQ.call (vs := [.agg #[.slice gA (vs.length) gc, .int .i64 (((fm fq : Nat) : Int)), .int .i64 t]]) (caps := []) Tcall_119 rfl rfl (fun w hs => (by have h := branchOn_spec (t := t) (vs := (gz t n (G, gts (zs.take m), vs)).2.2) (fq := fq) (by omega) hasc hfq5 (hs.slGrpR (.tail _ (.tail _ (.tail _ (List.Mem.head _)))) (tg_mem hz3)); exact h))) ?_
      refine Run.p (.int .i64 (brn (gz t n (G, gts (zs.take m), vs)).2.2 fq)) rfl rfl ?_
      refine Run.done ?_
      refine Run.seq ?_
      refine Run.sr ?_
      refine Run.p (.int .i64 (brn (gz t n (G, gts (zs.take m), vs)).2.2 fq)) rfl rfl ?_
      refine Run.p (.bool (decide ((brn (gz t n (G, gts (zs.take m), vs)).2.2 fq) < 0))) rfl rfl ?_
      refine Run.done ?_
      refine Run.cond (b := decide ((brn (gz t n (G, gts (zs.take m), vs)).2.2 fq) < 0)) rfl (fun h78 => ?_) (fun h78 => ?_)
      ·have p78 := h78; try simp only [bs] at p78
       rw [gstp_stop hvne (by omega), ← hfinal.g, ← hS3] at hnx
       refine Run.weak (H' := [.grp 3 1 (tg (zs2.take m)), .own (.slice (some ⟨gt, 0, none⟩) m c_vt1) 129 3 ((zs2.take m).length) (tcells (zs2.take m)), .blk b7 129 [.slice gA (vs.length) gc, .int .i64 (((fm fq : Nat) : Int)), .int .i64 t], .own vo2 71 3 (G2.length) (ints (flCX G2))]) ((Weak.selF [3]).trans (Weak.tgInit (by omega))) ?_ ⟨_, _, rfl, fun _ => nofun, fun _ => nofun⟩
       refine Run.exit rfl ?_
       refine Run.goal ⟨(by repeat (first | exact Same.refl _ _ | refine Same.put rfl ?_ | refine Same.over rfl rfl ?_)), (f2, G2, ((zs2.take m)), vo2, .slice (some ⟨gt, 0, none⟩) m c_vt1), ?_, ?_, ?_, ?_⟩
       ·first | exact ⟨hnx, fun z hz => hfm z (List.mem_of_mem_take hz)⟩ | exact ⟨hnx, fun z hz => hfm2 z (List.mem_of_mem_take hz)⟩ | exact ⟨by rw [gts_go]; exact hnx, fm_go (fun z hz => hfm2 z (List.mem_of_mem_take hz)) rfl rfl⟩
       ·show f2 < f2 + 1; omega
       ·exact ⟨(by first | rfl | (congr 1; omega) | simp), (by first | rfl | (congr 1; omega) | simp), trivial⟩
       ·exact ((Weak.selF [3, 1, 0]).trans (Some'.weak (.takeEq (by first | rfl | simp) (.takeEq (by first | rfl | simp) (.takeEq (by first | rfl | simp) (.nil _))))))
      ·have p78 := h78; try simp only [bs] at p78
       have hfne : fq ≠ [] := by
        intro h
        rw [h, brn_nil] at p78; omega
       obtain ⟨b, hbf, hbe⟩ := brn_cases (gz t n (G, gts (zs.take m), vs)).2.2 fq hfne
       rw [gstp_go hvne hbe, ← hfinal.g, ← hS3] at hnx
       have hb5 := hfq5 b hbf
       obtain ⟨q2, hq2⟩ : ∃ q2 : Nat, q2 = 2 ^ b := ⟨_, rfl⟩
       have hq232 : q2 ≤ 32 := by rw [hq2]; exact Nat.le_trans (Nat.pow_le_pow_right (by omega) (show b ≤ 5 by omega)) (by decide)
       have hfm32 : fm fq < 32 := fm_lt (n := 5) hfq5
       have hers : fm fq ^^^ (fm fq &&& q2) = fm (fq.erase b) := by rw [hq2, fm_erase htok.nd]
       rw [show brn (gz t n (G, gts (zs.take m), vs)).2.2 fq = ((b : Nat) : Int) from by exact hbe]
       refine Run.skip ?_
       refine Run.sr ?_
       refine Run.y (.pointer (some ⟨b7, 0, none⟩)) rfl (OpY.fieldAddr Tfo_129_0 rfl rfl) ?_
       refine Run.y (.slice gA (vs.length) gc) rfl (OpY.load1 Tone_22 rfl (Cells.blk (.tail _ (List.Mem.head _)) ⟨rfl, trivial⟩)) ?_
       refine Run.p (.int .i64 (((b : Nat) : Int))) rfl rfl ?_
       refine Run.step rfl (OpStep.call (vs := [.slice gA (vs.length) gc, .int .i64 (((b : Nat) : Int))]) (caps := []) Tcall_120 rfl rfl (fun w hs => (by have h := split_spec (vs := (gz t n (G, gts (zs.take m), vs)).2.2) (j := b) (by omega) (by omega) (hs.slGrpR (.tail _ (.tail _ (.tail _ (List.Mem.head _)))) (tg_mem hz3)); exact h)) ?_)
       rintro _ _ ⟨u1, u0, rfl, rfl⟩
       show Run _ _ (putF _ _ _ (.tuple #[u1, u0])) [.own u1 3 1 ((st1 (gz t n (G, gts (zs.take m), vs)).2.2 b).length) (ints (nl (st1 (gz t n (G, gts (zs.take m), vs)).2.2 b))), .own u0 3 1 ((st0 (gz t n (G, gts (zs.take m), vs)).2.2 b).length) (ints (nl (st0 (gz t n (G, gts (zs.take m), vs)).2.2 b))), .own (.slice (some ⟨gt, 0, none⟩) m c_vt1) 129 3 ((zs2.take m).length) (tcells (zs2.take m)), .blk b7 129 [.slice gA (vs.length) gc, .int .i64 (((fm fq : Nat) : Int)), .int .i64 t], .own vo2 71 3 (G2.length) (ints (flCX G2)), .grp 3 1 (tg zs2)]
       refine Run.p (.tuple #[u1, u0]) rfl rfl ?_
       refine Run.p (u1) rfl rfl ?_
       refine Run.p (u0) rfl rfl ?_
       refine Run.p (u1) rfl rfl ?_
       refine Run.p (u0) rfl rfl ?_
       refine Run.dsr ?_
       refine Run.y (.pointer (some ⟨b7, 2, none⟩)) rfl (OpY.fieldAddr Tfo_129_2 rfl rfl) ?_
       refine Run.y (.int .i64 t) rfl (OpY.load1 Tone_3 rfl (Cells.blk (.tail _ (.tail _ (.tail _ (List.Mem.head _)))) ⟨rfl, trivial⟩)) ?_
       refine Run.p (.int .i64 t) rfl rfl ?_
       refine Run.done ?_
       refine Run.seq ?_
       refine Run.sr ?_
       refine Run.p (.int .i64 t) rfl rfl ?_
       refine Run.p (.bool (decide (t < 0))) rfl rfl ?_
       refine Run.done ?_
       refine Run.cut (ι := Unit) [13, 90] (fun _ => [(13, .int .i64 (tgt t b))]) (fun _ => [.own u1 3 1 ((st1 (gz t n (G, gts (zs.take m), vs)).2.2 b).length) (ints (nl (st1 (gz t n (G, gts (zs.take m), vs)).2.2 b))), .own u0 3 1 ((st0 (gz t n (G, gts (zs.take m), vs)).2.2 b).length) (ints (nl (st0 (gz t n (G, gts (zs.take m), vs)).2.2 b))), .own (.slice (some ⟨gt, 0, none⟩) m c_vt1) 129 3 ((zs2.take m).length) (tcells (zs2.take m)), .blk b7 129 [.slice gA (vs.length) gc, .int .i64 (((fm fq : Nat) : Int)), .int .i64 t], .own vo2 71 3 (G2.length) (ints (flCX G2)), .grp 3 1 (tg zs2)]) (fun _ => True) ?_ ?_
       ·refine Run.cond (b := decide (t < 0)) rfl (fun h89 => ?_) (fun h89 => ?_)
        ·have p89 := h89; try simp only [bs] at p89
         refine Run.region ?_
         refine Run.p (.int .i64 (((b : Nat) : Int))) rfl rfl ?_
         refine Run.p (.int .i64 (((b : Nat) : Int))) rfl rfl ?_
         refine Run.done ?_
         refine Run.goal ⟨(by repeat (first | exact Same.refl _ _ | refine Same.put rfl ?_ | refine Same.over rfl rfl ?_)), (), ?_, ?_, ?_⟩
         ·trivial
         ·exact ⟨(by show Value.int _ _ = Value.int _ _; congr 1; first | exact (if_pos (by omega)).symm | exact (if_neg (by omega)).symm), trivial⟩
         ·exact (Some'.weak (.takeEq (by first | rfl | simp) (.takeEq (by first | rfl | simp) (.takeEq (by first | rfl | simp) (.take (.takeEq (by first | rfl | simp) (.takeEq (by first | rfl | simp) (.nil _))))))))
        ·have p89 := h89; try simp only [bs] at p89
         refine Run.skip ?_
         refine Run.goal ⟨(by repeat (first | exact Same.refl _ _ | refine Same.put rfl ?_ | refine Same.over rfl rfl ?_)), (), ?_, ?_, ?_⟩
         ·trivial
         ·exact ⟨(by show Value.int _ _ = Value.int _ _; congr 1; first | exact (if_pos (by omega)).symm | exact (if_neg (by omega)).symm), trivial⟩
         ·exact (Some'.weak (.takeEq (by first | rfl | simp) (.takeEq (by first | rfl | simp) (.takeEq (by first | rfl | simp) (.take (.takeEq (by first | rfl | simp) (.takeEq (by first | rfl | simp) (.nil _))))))))
       ·rintro _ fr hcut
        show Run _ _ (over _ _ [(13, .int .i64 (tgt t b))] fr) [.own u1 3 1 ((st1 (gz t n (G, gts (zs.take m), vs)).2.2 b).length) (ints (nl (st1 (gz t n (G, gts (zs.take m), vs)).2.2 b))), .own u0 3 1 ((st0 (gz t n (G, gts (zs.take m), vs)).2.2 b).length) (ints (nl (st0 (gz t n (G, gts (zs.take m), vs)).2.2 b))), .own (.slice (some ⟨gt, 0, none⟩) m c_vt1) 129 3 ((zs2.take m).length) (tcells (zs2.take m)), .blk b7 129 [.slice gA (vs.length) gc, .int .i64 (((fm fq : Nat) : Int)), .int .i64 t], .own vo2 71 3 (G2.length) (ints (flCX G2)), .grp 3 1 (tg zs2)]
        refine Run.seq ?_
        refine Run.draws (by kernel_rfl) (by kernel_rfl) ?_
        refine Lex.q (v := .pointer (some ⟨b7, 1, none⟩)) rfl (OpQ.y (OpY.fieldAddr Tfo_129_1 rfl rfl)) ?_
        refine Lex.q (v := .int .i64 (((fm fq : Nat) : Int))) rfl (OpQ.y (OpY.load1 Tone_3 rfl (Cells.blk (.tail _ (.tail _ (.tail _ (List.Mem.head _)))) ⟨rfl, trivial⟩))) ?_
        refine Lex.q (v := .int .i64 (((b : Nat) : Int))) rfl (OpQ.y (OpY.pure rfl)) ?_
        refine Lex.q (v := .int .i64 (((q2 : Nat) : Int))) rfl (OpQ.y (OpY.shlOne rfl rfl rfl (by omega) hq2)) ?_
        refine Lex.q (v := .int .i64 (((fm (fq.erase b) : Nat) : Int))) rfl (OpQ.y (OpY.andNotNat rfl rfl (by omega) (by omega) hers)) ?_
        refine Lex.q (v := .int .i64 (((fm (fq.erase b) : Nat) : Int))) rfl (OpQ.y (OpY.pure rfl)) ?_
        refine Lex.done ?_
        refine Run.formOwn (.head _) (fun A_u11 c_u11 hv hcapc_u11 hmaxc_u11 => ?_) (fun _ _ _ => ⟨nofun, nofun, nofun⟩)
        subst hv
        refine Run.formOwn (.tail _ (List.Mem.head _)) (fun A_u01 c_u01 hv hcapc_u01 hmaxc_u01 => ?_) (fun _ _ _ => ⟨nofun, nofun, nofun⟩)
        subst hv
        refine Run.weak (H' := [.grp 3 1 (tg (zs2.take m)), .own (.slice A_u11 ((st1 (gz t n (G, gts (zs.take m), vs)).2.2 b).length) c_u11) 3 1 ((st1 (gz t n (G, gts (zs.take m), vs)).2.2 b).length) (ints (nl (st1 (gz t n (G, gts (zs.take m), vs)).2.2 b))), .own (.slice A_u01 ((st0 (gz t n (G, gts (zs.take m), vs)).2.2 b).length) c_u01) 3 1 ((st0 (gz t n (G, gts (zs.take m), vs)).2.2 b).length) (ints (nl (st0 (gz t n (G, gts (zs.take m), vs)).2.2 b))), .own (.slice (some ⟨gt, 0, none⟩) m c_vt1) 129 3 ((zs2.take m).length) (tcells (zs2.take m)), .blk b7 129 [.slice gA (vs.length) gc, .int .i64 (((fm fq : Nat) : Int)), .int .i64 t], .own vo2 71 3 (G2.length) (ints (flCX G2))]) ((Weak.selF [5]).trans (Weak.tgInit (by omega))) ?_ ⟨_, _, rfl, fun _ => nofun, fun _ => nofun⟩
        refine Run.weak (H' := [.grp 3 1 (tg (zs2.take m ++ [((.slice A_u11 ((st1 (gz t n (G, gts (zs.take m), vs)).2.2 b).length) c_u11 : Value), ((.int .i64 ((fm (fq.erase b) : Nat) : Int) : Value), (st1 (gz t n (G, gts (zs.take m), vs)).2.2 b, (fq.erase b, tgt t b))))])), .own (.slice A_u01 ((st0 (gz t n (G, gts (zs.take m), vs)).2.2 b).length) c_u01) 3 1 ((st0 (gz t n (G, gts (zs.take m), vs)).2.2 b).length) (ints (nl (st0 (gz t n (G, gts (zs.take m), vs)).2.2 b))), .own (.slice (some ⟨gt, 0, none⟩) m c_vt1) 129 3 ((zs2.take m).length) (tcells (zs2.take m)), .blk b7 129 [.slice gA (vs.length) gc, .int .i64 (((fm fq : Nat) : Int)), .int .i64 t], .own vo2 71 3 (G2.length) (ints (flCX G2))]) ((Weak.selF [1, 0]).trans (Weak.tgSnoc (z := ((.slice A_u11 ((st1 (gz t n (G, gts (zs.take m), vs)).2.2 b).length) c_u11 : Value), ((.int .i64 ((fm (fq.erase b) : Nat) : Int) : Value), (st1 (gz t n (G, gts (zs.take m), vs)).2.2 b, (fq.erase b, tgt t b))))))) ?_ ⟨_, _, rfl, fun _ => nofun, fun _ => nofun⟩
        refine Run.weak (H' := [.grp 3 1 (tg ((zs2.take m ++ [((.slice A_u11 ((st1 (gz t n (G, gts (zs.take m), vs)).2.2 b).length) c_u11 : Value), ((.int .i64 ((fm (fq.erase b) : Nat) : Int) : Value), (st1 (gz t n (G, gts (zs.take m), vs)).2.2 b, (fq.erase b, tgt t b))))]) ++ [((.slice A_u01 ((st0 (gz t n (G, gts (zs.take m), vs)).2.2 b).length) c_u01 : Value), ((.int .i64 ((fm (fq.erase b) : Nat) : Int) : Value), (st0 (gz t n (G, gts (zs.take m), vs)).2.2 b, (fq.erase b, t))))])), .own (.slice (some ⟨gt, 0, none⟩) m c_vt1) 129 3 ((zs2.take m).length) (tcells (zs2.take m)), .blk b7 129 [.slice gA (vs.length) gc, .int .i64 (((fm fq : Nat) : Int)), .int .i64 t], .own vo2 71 3 (G2.length) (ints (flCX G2))]) ((Weak.selF [1, 0]).trans (Weak.tgSnoc (z := ((.slice A_u01 ((st0 (gz t n (G, gts (zs.take m), vs)).2.2 b).length) c_u01 : Value), ((.int .i64 ((fm (fq.erase b) : Nat) : Int) : Value), (st0 (gz t n (G, gts (zs.take m), vs)).2.2 b, (fq.erase b, t))))))) ?_ ⟨_, _, rfl, fun _ => nofun, fun _ => nofun⟩
        refine Run.region ?_
        refine Run.p (.slice (some ⟨gt, 0, none⟩) m c_vt1) rfl rfl ?_
        refine Run.p (.slice A_u11 ((st1 (gz t n (G, gts (zs.take m), vs)).2.2 b).length) c_u11) rfl rfl ?_
        refine Run.p (.int .i64 (((fm (fq.erase b) : Nat) : Int))) rfl rfl ?_
        refine Run.p (.int .i64 (tgt t b)) rfl rfl ?_
        refine Run.y (.agg #[.slice A_u11 ((st1 (gz t n (G, gts (zs.take m), vs)).2.2 b).length) c_u11, .int .i64 (((fm (fq.erase b) : Nat) : Int)), .int .i64 (tgt t b)]) rfl (OpY.build (cs := [.slice A_u11 ((st1 (gz t n (G, gts (zs.take m), vs)).2.2 b).length) c_u11, .int .i64 (((fm (fq.erase b) : Nat) : Int)), .int .i64 (tgt t b)]) (by kernel_rfl)) ?_
        refine Run.p (.slice A_u01 ((st0 (gz t n (G, gts (zs.take m), vs)).2.2 b).length) c_u01) rfl rfl ?_
        refine Run.p (.int .i64 (((fm (fq.erase b) : Nat) : Int))) rfl rfl ?_
        refine Run.y (.pointer (some ⟨b7, 2, none⟩)) rfl (OpY.fieldAddr Tfo_129_2 rfl rfl) ?_
        refine Run.y (.int .i64 t) rfl (OpY.load1 Tone_3 rfl (Cells.blk (.tail _ (.tail _ (List.Mem.head _))) ⟨rfl, trivial⟩)) ?_
        refine Run.y (.agg #[.slice A_u01 ((st0 (gz t n (G, gts (zs.take m), vs)).2.2 b).length) c_u01, .int .i64 (((fm (fq.erase b) : Nat) : Int)), .int .i64 t]) rfl (OpY.build (cs := [.slice A_u01 ((st0 (gz t n (G, gts (zs.take m), vs)).2.2 b).length) c_u01, .int .i64 (((fm (fq.erase b) : Nat) : Int)), .int .i64 t]) (by kernel_rfl)) ?_
        refine Run.step rfl (OpStep.buildSlice (us := [.slice A_u11 ((st1 (gz t n (G, gts (zs.take m), vs)).2.2 b).length) c_u11, .int .i64 (((fm (fq.erase b) : Nat) : Int)), .int .i64 (tgt t b), .slice A_u01 ((st0 (gz t n (G, gts (zs.take m), vs)).2.2 b).length) c_u01, .int .i64 (((fm (fq.erase b) : Nat) : Int)), .int .i64 t]) Tsl_130 (by decide) (by decide) ⟨rfl, [.slice A_u11 ((st1 (gz t n (G, gts (zs.take m), vs)).2.2 b).length) c_u11, .int .i64 (((fm (fq.erase b) : Nat) : Int)), .int .i64 (tgt t b)], _, rfl, rfl, rfl, ⟨rfl, [.slice A_u01 ((st0 (gz t n (G, gts (zs.take m), vs)).2.2 b).length) c_u01, .int .i64 (((fm (fq.erase b) : Nat) : Int)), .int .i64 t], _, rfl, rfl, rfl, rfl⟩⟩ rfl fun b9 => ?_)
        refine Run.step rfl (OpStep.append (H1 := [.own (.slice (some ⟨b9, 0, none⟩) 2 2) 129 3 2 ([.slice A_u11 ((st1 (gz t n (G, gts (zs.take m), vs)).2.2 b).length) c_u11, .int .i64 (((fm (fq.erase b) : Nat) : Int)), .int .i64 (tgt t b), .slice A_u01 ((st0 (gz t n (G, gts (zs.take m), vs)).2.2 b).length) c_u01, .int .i64 (((fm (fq.erase b) : Nat) : Int)), .int .i64 t]), .grp 3 1 (tg ((zs2.take m ++ [((.slice A_u11 ((st1 (gz t n (G, gts (zs.take m), vs)).2.2 b).length) c_u11 : Value), ((.int .i64 ((fm (fq.erase b) : Nat) : Int) : Value), (st1 (gz t n (G, gts (zs.take m), vs)).2.2 b, (fq.erase b, tgt t b))))]) ++ [((.slice A_u01 ((st0 (gz t n (G, gts (zs.take m), vs)).2.2 b).length) c_u01 : Value), ((.int .i64 ((fm (fq.erase b) : Nat) : Int) : Value), (st0 (gz t n (G, gts (zs.take m), vs)).2.2 b, (fq.erase b, t))))]))]) (H2 := [.blk b7 129 [.slice gA (vs.length) gc, .int .i64 (((fm fq : Nat) : Int)), .int .i64 t], .own vo2 71 3 (G2.length) (ints (flCX G2))]) (v := .slice (some ⟨gt, 0, none⟩) m c_vt1) (u := .slice (some ⟨b9, 0, none⟩) 2 2) (n := (zs2.take m).length) (m := 2) (xs := tcells (zs2.take m)) (ys := [.slice A_u11 ((st1 (gz t n (G, gts (zs.take m), vs)).2.2 b).length) c_u11, .int .i64 (((fm (fq.erase b) : Nat) : Int)), .int .i64 (tgt t b), .slice A_u01 ((st0 (gz t n (G, gts (zs.take m), vs)).2.2 b).length) c_u01, .int .i64 (((fm (fq.erase b) : Nat) : Int)), .int .i64 t]) Tsl_130 (by decide) rfl rfl rfl rfl (fun w hs => hs.slOwn (.head _)) (by simp [Value.oneCell']) (by omega) (by simp only [maxLen]; omega) fun av2 hnav2 => ?_)
        refine Run.weak (H' := [.own (.slice (some ⟨b9, 0, none⟩) 2 2) 129 3 2 ([.slice A_u11 ((st1 (gz t n (G, gts (zs.take m), vs)).2.2 b).length) c_u11, .int .i64 (((fm (fq.erase b) : Nat) : Int)), .int .i64 (tgt t b), .slice A_u01 ((st0 (gz t n (G, gts (zs.take m), vs)).2.2 b).length) c_u01, .int .i64 (((fm (fq.erase b) : Nat) : Int)), .int .i64 t]), .grp 3 1 (tg ((zs2.take m ++ [((.slice A_u11 ((st1 (gz t n (G, gts (zs.take m), vs)).2.2 b).length) c_u11 : Value), ((.int .i64 ((fm (fq.erase b) : Nat) : Int) : Value), (st1 (gz t n (G, gts (zs.take m), vs)).2.2 b, (fq.erase b, tgt t b))))]) ++ [((.slice A_u01 ((st0 (gz t n (G, gts (zs.take m), vs)).2.2 b).length) c_u01 : Value), ((.int .i64 ((fm (fq.erase b) : Nat) : Int) : Value), (st0 (gz t n (G, gts (zs.take m), vs)).2.2 b, (fq.erase b, t))))])), .own av2 129 3 (((zs2.take m ++ [((.slice A_u11 ((st1 (gz t n (G, gts (zs.take m), vs)).2.2 b).length) c_u11 : Value), ((.int .i64 ((fm (fq.erase b) : Nat) : Int) : Value), (st1 (gz t n (G, gts (zs.take m), vs)).2.2 b, (fq.erase b, tgt t b))))]) ++ [((.slice A_u01 ((st0 (gz t n (G, gts (zs.take m), vs)).2.2 b).length) c_u01 : Value), ((.int .i64 ((fm (fq.erase b) : Nat) : Int) : Value), (st0 (gz t n (G, gts (zs.take m), vs)).2.2 b, (fq.erase b, t))))]).length) (tcells ((zs2.take m ++ [((.slice A_u11 ((st1 (gz t n (G, gts (zs.take m), vs)).2.2 b).length) c_u11 : Value), ((.int .i64 ((fm (fq.erase b) : Nat) : Int) : Value), (st1 (gz t n (G, gts (zs.take m), vs)).2.2 b, (fq.erase b, tgt t b))))]) ++ [((.slice A_u01 ((st0 (gz t n (G, gts (zs.take m), vs)).2.2 b).length) c_u01 : Value), ((.int .i64 ((fm (fq.erase b) : Nat) : Int) : Value), (st0 (gz t n (G, gts (zs.take m), vs)).2.2 b, (fq.erase b, t))))])), .blk b7 129 [.slice gA (vs.length) gc, .int .i64 (((fm fq : Nat) : Int)), .int .i64 t], .own vo2 71 3 (G2.length) (ints (flCX G2))]) (Some'.weak (.take (.take (.takeEq (by rw [tcells_append, tcells_append]; simp [tcells, tcell]) (.take (.take (.nil _))))))) ?_ ⟨_, _, rfl, fun _ => nofun, fun _ => nofun⟩
        refine Run.p (av2) rfl rfl ?_
        refine Run.done ?_
        refine Run.blockEnd ?_
        refine Run.goal ⟨(by repeat (first | exact Same.refl _ _ | refine Same.put rfl ?_ | refine Same.over rfl rfl ?_)), (f2, G2, (((zs2.take m ++ [((.slice A_u11 ((st1 (gz t n (G, gts (zs.take m), vs)).2.2 b).length) c_u11 : Value), ((.int .i64 ((fm (fq.erase b) : Nat) : Int) : Value), (st1 (gz t n (G, gts (zs.take m), vs)).2.2 b, (fq.erase b, tgt t b))))]) ++ [((.slice A_u01 ((st0 (gz t n (G, gts (zs.take m), vs)).2.2 b).length) c_u01 : Value), ((.int .i64 ((fm (fq.erase b) : Nat) : Int) : Value), (st0 (gz t n (G, gts (zs.take m), vs)).2.2 b, (fq.erase b, t))))])), vo2, av2), ?_, ?_, ?_, ?_⟩
        ·first | exact ⟨hnx, fun z hz => hfm z (List.mem_of_mem_take hz)⟩ | exact ⟨hnx, fun z hz => hfm2 z (List.mem_of_mem_take hz)⟩ | exact ⟨by rw [gts_go]; exact hnx, fm_go (fun z hz => hfm2 z (List.mem_of_mem_take hz)) rfl rfl⟩
        ·show f2 < f2 + 1; omega
        ·exact ⟨(by first | rfl | (congr 1; omega) | simp), (by first | rfl | (congr 1; omega) | simp), trivial⟩
        ·exact ((Weak.selF [4, 2, 1]).trans (Some'.weak (.takeEq (by first | rfl | simp) (.takeEq (by first | rfl | simp) (.takeEq (by first | rfl | simp) (.nil _))))))
   ·have p25 := h25; try simp only [bs] at p25
    obtain ⟨hgr, _⟩ := hinv
    obtain rfl : zs = [] := List.length_eq_zero_iff.1 (by omega)
    have hfin : G = gG n ms := hgr.done
    refine Run.exit rfl ?_
    refine Run.sr ?_
    refine Run.p (vo) rfl rfl ?_
    refine Run.p (vo) rfl rfl ?_
    refine Run.done ?_
    refine Run.ret ?_
    refine ⟨vo, [.own vo 71 3 ((gG n ms).length) (ints (flCX (gG n ms)))], Out.one rfl rfl, (Some'.weak (.takeEq (by first | rfl | rw [hfin]) (.nil _))), ?_⟩
    rfl

end Go.Proofs.Yteehfidjofcfmaa
/- Walks: the Gray network, of the reference. -/
set_option linter.unusedSimpArgs false
set_option linter.unusedVariables false
namespace Go.Proofs.Yteehfidjofcfmaa
open Go Go.RowKit
namespace GrdT
theorem Tint_96 : Try.prog.underlying 96 = some (.int .u64) := by kernel_rfl
theorem Tone_3 : oneOf Try.prog 3 = true := by kernel_rfl
theorem Tsize_3 : (Try.prog.info? 3).map (·.size) = some 1 := by kernel_rfl
theorem Tsl_22 : sliceOf Try.prog 22 = some (3, 1, 8, [.int .i64 0]) := by kernel_rfl
theorem Tsome_3 : (Try.prog.underlying 3).isSome = true := by kernel_rfl
end GrdT
open GrdT
def stB (vs : List Nat) (j : Nat) (b : Nat) : List Nat := if b = 1 then st1 vs j else st0 vs j
theorem stB_le (vs : List Nat) (j b : Nat) : (stB vs j b).length ≤ vs.length := by 
  unfold stB; split
  · exact st1_le _ _
  · exact st0_le _ _
theorem stB_take {vs : List Nat} {k : Nat} (h : k < vs.length) (j b : Nat) (hb : b ≤ 1) : stB (vs.take (k + 1)) j b = stB (vs.take k) j b ++ if ((if (nx vs k).testBit j then 1 else 0) = b) then [nx vs k] else [] := by
  unfold stB
  by_cases e : b = 1
  · subst e
    rw [if_pos rfl, if_pos rfl, st1_take h]
    cases (nx vs k).testBit j <;> simp
  · obtain rfl : b = 0 := by omega
    rw [if_neg e, if_neg e, st0_take h]
    cases (nx vs k).testBit j <;> simp
theorem bit_val (x j : Nat) : ((x : Int) >>> j) % 2 = if x.testBit j then 1 else 0 := by
  have h := bitI_natG x j
  unfold bitI at h
  have h2 := Int.emod_two_eq ((x : Int) >>> j)
  cases hb : x.testBit j with
  | true => rw [hb] at h; rw [if_pos rfl]; simpa using h
  | false =>
    rw [hb] at h
    rw [if_neg (by decide)]
    rcases h2 with h2 | h2
    · exact h2
    · rw [h2] at h; simp at h
theorem st0_nil {vs : List Nat} {j : Nat} : (st0 vs j).length = 0 ↔ (vs.all fun v => v.testBit j) = true := by
  rw [List.length_eq_zero_iff, List.all_eq_true, st0, List.filter_eq_nil_iff]
  constructor
  · intro h v hv
    have := h v hv
    simpa using this
  · intro h v hv
    rw [h v hv]; decide
theorem sz_pos {vs : List Nat} (j : Nat) (h : vs ≠ []) : 1 ≤ szJ vs j := by
  obtain ⟨v, hv⟩ := List.exists_mem_of_ne_nil _ h
  unfold szJ
  cases hb : v.testBit j with
  | true =>
    have : 0 < (st1 vs j).length := List.length_pos_of_mem (st1_mem.2 ⟨hv, hb⟩)
    omega
  | false =>
    have : 0 < (st0 vs j).length := List.length_pos_of_mem (st0_mem.2 ⟨hv, hb⟩)
    omega
theorem brn_zero {vs : List Nat} (h : vs ≠ []) : ∀ fq : List Nat, (fq.foldl (brF vs) (-1, 0)).1 = brn vs fq
  | [] => rfl
  | j :: fq => by
    have h1 := sz_pos j h
    have e1 : brF vs (-1, -1) j = ((j : Int), ((szJ vs j : Nat) : Int)) := by unfold brF; rw [if_pos]; show (-1 : Int) < _; omega
    have e2 : brF vs (-1, 0) j = ((j : Int), ((szJ vs j : Nat) : Int)) := by unfold brF; rw [if_pos]; show (0 : Int) < _; omega
    rw [brn, List.foldl_cons, List.foldl_cons, e1, e2]
theorem szJ_le (vs : List Nat) (j : Nat) : szJ vs j ≤ vs.length := by
  have h1 := st1_le vs j
  have h0 := st0_le vs j
  unfold szJ; omega
/-- The free qubits but one. -/
def frX (b : Nat) (l : List Nat) : List Nat := l.filter fun j => j != b
theorem frX_take {l : List Nat} {k : Nat} (h : k < l.length) (b : Nat) : frX b (l.take (k + 1)) = frX b (l.take k) ++ if nx l k = b then [] else [nx l k] := by
  have e : nx l k = l[k] := by simp [nx, List.getD, h]
  rw [← List.take_append_getElem h, frX, List.filter_append, e]
  simp only [frX, List.filter_cons, List.filter_nil]
  by_cases hb : l[k] = b
  · rw [if_pos hb, hb]; simp
  · rw [if_neg hb, if_pos (by simpa using hb)]
theorem frX_le (b : Nat) (l : List Nat) : (frX b l).length ≤ l.length := List.length_filter_le _ _
theorem frX_erase {l : List Nat} (h : l.Nodup) (b : Nat) : frX b l = l.erase b := (h.erase_eq_filter b).symm
theorem nxIn {l : List Nat} {k : Nat} (h : k < l.length) : nx l k ∈ l := by
  have e : nx l k = l[k] := by simp [nx, List.getD, h]
  rw [e]; exact List.getElem_mem h
theorem fold_take {vs l : List Nat} {k : Nat} (h : k < l.length) (s : Int × Int) : (l.take (k + 1)).foldl (brF vs) s = brF vs ((l.take k).foldl (brF vs) s) (nx l k) := by
  have e : nx l k = l[k] := by simp [nx, List.getD, h]
  rw [← List.take_append_getElem h, List.foldl_append, e]; rfl
/-- Inside a round of the reference: the tasks that are left, after the gates below j. -/
structure LsI (zs1 : List TZ) (s : GS) (G2 : List (Nat × Nat)) (zs2 : List TZ) : Prop where
  g : G2 = s.1
  nms : zs2.map nm2 = zs1.map nm2
  ts : gts zs2 = s.2.1
theorem LsI.len {zs1 zs2 : List TZ} {s : GS} {G2 : List (Nat × Nat)} (h : LsI zs1 s G2 zs2) : zs2.length = zs1.length := by
  have := congrArg List.length h.nms; simpa using this
theorem LsI.init {zs1 : List TZ} {t : Int} {vs : List Nat} {G : List (Nat × Nat)} : LsI zs1 (gz t 0 (G, gts zs1, vs)) G zs1 := by
  rw [gz_zero]; exact ⟨rfl, rfl, rfl⟩
theorem LsI.add {zs1 zs2 : List TZ} {s : GS} {G2 : List (Nat × Nat)} {t j : Nat} (h : LsI zs1 (gz (t : Int) j s) G2 zs2) (hne : j ≠ t) (ha : ((gz (t : Int) j s).2.2.all fun v => v.testBit j) = true) : LsI zs1 (gz (t : Int) (j + 1) s) (G2 ++ [(j, t)]) (zs2.map (addZ j t)) := by
  rw [gz_go hne ha]
  exact ⟨by rw [h.g], by rw [nm_add]; exact h.nms, by rw [gts_add, h.ts]⟩
theorem LsI.same {zs1 zs2 : List TZ} {vs : List Nat} {t : Int} {G G2 : List (Nat × Nat)} {j : Nat} (h : LsI zs1 (gz t j (G, gts zs1, vs)) G2 zs2) :
    ∀ z ∈ zs2, ∃ y ∈ zs1, z.1 = y.1 ∧ z.2.1 = y.2.1 ∧ z.2.2.1.length = y.2.2.1.length ∧ z.2.2.2 = y.2.2.2 := by
  have hl := h.len
  obtain ⟨k1, k2⟩ := gz_keep t j (G, gts zs1, vs)
  simp only at k1 k2
  have e : (gts zs2).map (fun T => (T.1.length, T.2)) = (gts zs1).map (fun T => (T.1.length, T.2)) := by rw [h.ts, k2]
  intro z hzm
  obtain ⟨i, hi, rfl⟩ := List.getElem_of_mem hzm
  have hi2 : i < zs1.length := by omega
  have e1 : (zs2.map nm2)[i]? = (zs1.map nm2)[i]? := by rw [h.nms]
  have e2 : ((gts zs2).map (fun T => (T.1.length, T.2)))[i]? = ((gts zs1).map (fun T => (T.1.length, T.2)))[i]? := by rw [e]
  simp only [gts, List.map_map, List.getElem?_map, List.getElem?_eq_getElem hi, List.getElem?_eq_getElem hi2, Option.map_some, Option.some.injEq, Function.comp, nm2, Prod.mk.injEq] at e1 e2
  exact ⟨zs1[i], List.getElem_mem hi2, e1.1, e1.2, e2.1, e2.2⟩
theorem gz_all_len (t : Int) (j : Nat) (s : GS) : (gz t j s).2.2.length = s.2.2.length := (gz_keep t j s).1

set_option maxHeartbeats 1000000 in
set_option maxRecDepth 20000 in
theorem l14Set_spec {va : Value} {vs : List Nat} {j b : Nat} {w : World} (hj : j ≤ 62) (hb : b ≤ 1) (hlen : vs.length ≤ 1000) (ha : Sl w va 1 vs.length (ints (nl vs))) : Calls Try.prog 122 #[va, .int .i64 (j : Int), .int .i64 (b : Int)] w (Post No w fun v H => H = [.own v 3 1 (stB vs j b).length (ints (nl (stB vs j b)))]) := by
 have hll := nl_length vs
 obtain ⟨A, c, rfl, _, _⟩ := ha.form0
 refine enter (n := 29) (args := [.slice A (vs.length) c, .int .i64 (((j : Nat) : Int)), .int .i64 (((b : Nat) : Int))]) Try.func122 rfl rfl (St.empty _ _) ?_
 refine Run.sr ?_
 refine Run.p (.slice none 0 0) rfl rfl ?_
 refine Run.dsr ?_
 refine Run.p (.slice none 0 0) rfl rfl ?_
 refine Run.done ?_
 refine Run.seq ?_
 refine Run.sr ?_
 refine Run.p (.slice A (vs.length) c) rfl rfl ?_
 refine Run.y (.int .i64 (((vs.length : Nat) : Int))) rfl (OpY.len Tsl_22 rfl) ?_
 refine Run.p (.int .i64 0) rfl rfl ?_
 refine Run.done ?_
 refine Run.block ?_
 refine Run.weak (H' := [.own (.slice none 0 0) 3 1 0 ([])]) (Weak.nilOwn _ _) ?_ ⟨_, _, rfl, fun _ => nofun, fun _ => nofun⟩
 refine Run.loop (ι := Nat × Value) [7, 9, 12, 13, 14, 15, 16, 17, 18, 19, 20, 21, 22, 23, 24, 25, 26, 27] (fun ⟨k, v1⟩ => [(7, v1), (12, .int .i64 (((k : Nat) : Int)))]) (fun ⟨k, v1⟩ => [.own v1 3 1 ((stB (vs.take k) j b).length) (ints (nl (stB (vs.take k) j b)))]) (fun ⟨k, v1⟩ => k ≤ vs.length ∧ (True)) (fun ⟨k, v1⟩ => vs.length - k) (0, .slice none 0 0) ?_ ?_ ?_ ?_
 ·exact ⟨Nat.zero_le _, by first | trivial | (intro i hi; omega)⟩
 ·exact ⟨rfl, rfl, trivial⟩
 ·exact ((Weak.refl _).trans (Some'.weak (.takeEq (by first | rfl | (rw [hold]) | (simp [stB, st1, st0]; done) | (unfold stB; split <;> rfl)) (.nil _))))
 ·rintro ⟨k, v1⟩ fr hinv
  show Run _ _ (over _ _ [(7, v1), (12, .int .i64 (((k : Nat) : Int)))] fr) [.own v1 3 1 ((stB (vs.take k) j b).length) (ints (nl (stB (vs.take k) j b)))]
  try dsimp only at hinv
  refine Run.sr ?_
  refine Run.p (.bool (decide ((((k : Nat) : Int)) < (((vs.length : Nat) : Int))))) rfl rfl ?_
  refine Run.done ?_
  refine Run.seq ?_
  refine Run.cond (b := decide ((((k : Nat) : Int)) < (((vs.length : Nat) : Int)))) rfl (fun h13 => ?_) (fun h13 => ?_)
  ·have p13 := h13; try simp only [bs] at p13
   have hltk : k < vs.length := by omega
   obtain ⟨bq, oq, rfl⟩ := ha.opn (by omega)
   have h1k := stB_le (vs.take k) j b
   have htk : (vs.take k).length ≤ vs.length := by rw [List.length_take]; omega
   refine Run.skip ?_
   refine Run.seq ?_
   refine Run.block ?_
   refine Run.sr ?_
   refine Run.y (.pointer (some ⟨bq, oq + k, none⟩)) rfl (OpY.index (kk := k) Tsl_22 rfl rfl (by omega) (by omega) (by first | rfl | omega)) ?_
   refine Run.y (.int .i64 (ix (nl vs) (k))) rfl (OpY.load1 Tone_3 rfl (Cells.arg (k := k) ha rfl (by omega) (pre1 (by omega)))) ?_
   refine Run.p (.int .i64 (ix (nl vs) (k))) rfl rfl ?_
   refine Run.dsr ?_
   refine Run.p (.int .i64 (ix (nl vs) (k))) rfl rfl ?_
   refine Run.p (.int .i64 (((j : Nat) : Int))) rfl rfl ?_
   refine Run.y (.int .u64 (((j : Nat) : Int))) rfl (OpY.convIntEq Tsome_3 Tint_96 rfl (by rw [IntKind.wrap_u64]; omega)) ?_
   refine Run.y (.int .i64 ((ix (nl vs) (k)) >>> j)) rfl (OpY.shr rfl rfl (by first | rfl | omega) (by omega)) ?_
   refine Run.y (.int .i64 (((ix (nl vs) (k)) >>> j) % 2)) rfl (OpY.and1 rfl rfl) ?_
   refine Run.p (.int .i64 (((b : Nat) : Int))) rfl rfl ?_
   refine Run.p (.bool ((((ix (nl vs) (k)) >>> j) % 2) == (((b : Nat) : Int)))) rfl rfl ?_
   refine Run.done ?_
   refine Run.cond (b := (((ix (nl vs) (k)) >>> j) % 2) == (((b : Nat) : Int))) rfl (fun h22 => ?_) (fun h22 => ?_)
   ·have p22 := h22; try simp only [bs] at p22
    have hnew : stB (vs.take (k + 1)) j b = stB (vs.take k) j b ++ [nx vs k] := by
     rw [stB_take (vs := vs) (k := k) (by omega) j b hb, if_pos]
     rw [ix_nl, bit_val] at p22
     cases hx : (nx vs k).testBit j <;> rw [hx] at p22 <;> simp only [if_pos, if_neg, Bool.false_eq_true, if_false, if_true] at p22 ⊢ <;> omega
    refine Run.region ?_
    refine Run.p (v1) rfl rfl ?_
    refine Run.p (.int .i64 (ix (nl vs) (k))) rfl rfl ?_
    refine Run.step rfl (OpStep.buildSlice (us := [.int .i64 (ix (nl vs) (k))]) Tsl_22 (by decide) (by decide) ⟨rfl, [.int .i64 (ix (nl vs) (k))], _, rfl, rfl, rfl, rfl⟩ rfl fun b1 => ?_)
    refine Run.step rfl (OpStep.append (H1 := [.own (.slice (some ⟨b1, 0, none⟩) 1 1) 3 1 1 ([.int .i64 (ix (nl vs) (k))])]) (H2 := []) (v := v1) (u := .slice (some ⟨b1, 0, none⟩) 1 1) (n := (stB (vs.take k) j b).length) (m := 1) (xs := ints (nl (stB (vs.take k) j b))) (ys := [.int .i64 (ix (nl vs) (k))]) Tsl_22 (by decide) rfl rfl rfl rfl (fun w hs => hs.slOwn (.head _)) (by simp [Value.oneCell']) (by omega) (by simp only [maxLen]; omega) fun av1 hnav1 => ?_)
    refine Run.weak (H' := [.own (.slice (some ⟨b1, 0, none⟩) 1 1) 3 1 1 ([.int .i64 (ix (nl vs) (k))]), .own av1 3 1 ((stB (vs.take (k + 1)) j b).length) (ints (nl (stB (vs.take (k + 1)) j b)))]) (Some'.weak (.take (.takeEq (by rw [hnew, nl_snoc, ints_append, List.length_append, ix_nl]; rfl) (.nil _)))) ?_ ⟨_, _, rfl, fun _ => nofun, fun _ => nofun⟩
    refine Run.p (av1) rfl rfl ?_
    refine Run.done ?_
    refine Run.blockEnd ?_
    refine Run.region ?_
    refine Run.y (.int .i64 ((((k : Nat) : Int)) + 1)) rfl (OpY.add rfl rfl rfl (by omega) (by omega)) ?_
    refine Run.p (.int .i64 ((((k : Nat) : Int)) + 1)) rfl rfl ?_
    refine Run.done ?_
    refine Run.goal ⟨(by repeat (first | exact Same.refl _ _ | refine Same.put rfl ?_ | refine Same.over rfl rfl ?_)), (k + 1, av1), ?_, ?_, ?_, ?_⟩
    ·refine ⟨by omega, ?_⟩
     trivial
    ·show vs.length - (k + 1) < vs.length - k; omega
    ·exact ⟨(by first | rfl | (congr 1; omega) | simp), (by first | rfl | (congr 1; omega) | simp), trivial⟩
    ·exact ((Weak.selF [1]).trans (Some'.weak (.takeEq (by first | rfl | (rw [hold]) | (simp [stB, st1, st0]; done) | (unfold stB; split <;> rfl)) (.nil _))))
   ·have p22 := h22; try simp only [bs] at p22
    have hold : stB (vs.take (k + 1)) j b = stB (vs.take k) j b := by
     rw [stB_take (vs := vs) (k := k) (by omega) j b hb, if_neg, List.append_nil]
     rw [ix_nl, bit_val] at p22
     cases hx : (nx vs k).testBit j <;> rw [hx] at p22 <;> simp only [if_pos, if_neg, Bool.false_eq_true, if_false, if_true] at p22 ⊢ <;> omega
    refine Run.skip ?_
    refine Run.blockEnd ?_
    refine Run.region ?_
    refine Run.y (.int .i64 ((((k : Nat) : Int)) + 1)) rfl (OpY.add rfl rfl rfl (by omega) (by omega)) ?_
    refine Run.p (.int .i64 ((((k : Nat) : Int)) + 1)) rfl rfl ?_
    refine Run.done ?_
    refine Run.goal ⟨(by repeat (first | exact Same.refl _ _ | refine Same.put rfl ?_ | refine Same.over rfl rfl ?_)), (k + 1, v1), ?_, ?_, ?_, ?_⟩
    ·refine ⟨by omega, ?_⟩
     trivial
    ·show vs.length - (k + 1) < vs.length - k; omega
    ·exact ⟨(by first | rfl | (congr 1; omega) | simp), (by first | rfl | (congr 1; omega) | simp), trivial⟩
    ·exact ((Weak.refl _).trans (Some'.weak (.takeEq (by first | rfl | (rw [hold]) | (simp [stB, st1, st0]; done) | (unfold stB; split <;> rfl)) (.nil _))))
  ·have p13 := h13; try simp only [bs] at p13
   have hknk : k = vs.length := by omega
   have hfin : vs.take k = vs := by rw [List.take_of_length_le (by omega)]
   refine Run.exit rfl ?_
   refine Run.sr ?_
   refine Run.p (v1) rfl rfl ?_
   refine Run.p (v1) rfl rfl ?_
   refine Run.done ?_
   refine Run.ret ?_
   refine ⟨v1, [.own v1 3 1 ((stB (vs.take k) j b).length) (ints (nl (stB (vs.take k) j b)))], Out.one rfl rfl, (Some'.weak (.take (.nil _))), ?_⟩
   rw [hfin]

set_option maxHeartbeats 1000000 in
set_option maxRecDepth 20000 in
theorem l14Add_spec {va : Value} {vs : List Nat} {j t : Nat} {w : World} (hj : j ≤ 5) (ht : t ≤ 5) (hvl : vs.length ≤ 1000) (hb32 : ∀ v ∈ vs, v < 32) (ho : (Res.own va 3 1 (vs.length) (ints (nl (vs)))).holds w) : Calls Try.prog 123 #[va, .int .i64 (j : Int), .int .i64 (t : Int)] w (Post (Of [.own va 3 1 (vs.length) (ints (nl (vs)))]) w fun v H => v = .tuple #[] ∧ H = [.own va 3 1 (vs.length) (ints (nl (vs.map (addV j t))))]) := by
 have hsl := (St.start1 ho).slOwn (.head _)
 obtain ⟨A0, c0, rfl, _, _⟩ := hsl.form0
 obtain ⟨q, hq⟩ : ∃ q : Nat, q = 2 ^ j := ⟨_, rfl⟩
 have hq32 : q ≤ 32 := by rw [hq]; exact Nat.le_trans (Nat.pow_le_pow_right (by omega) hj) (by decide)
 refine enter (n := 30) (args := [.slice A0 (vs.length) c0, .int .i64 (((j : Nat) : Int)), .int .i64 (((t : Nat) : Int))]) Try.func123 rfl rfl (St.start1 ho) ?_
 refine Run.sr ?_
 refine Run.p (.slice A0 (vs.length) c0) rfl rfl ?_
 refine Run.y (.int .i64 (((vs.length : Nat) : Int))) rfl (OpY.len Tsl_22 rfl) ?_
 refine Run.p (.int .i64 0) rfl rfl ?_
 refine Run.done ?_
 refine Run.block ?_
 refine Run.loop (ι := Nat) [6, 7, 10, 11, 12, 13, 14, 15, 16, 17, 18, 19, 20, 21, 22, 23, 24, 25, 26, 27, 28, 29] (fun k => [(10, .int .i64 (((k : Nat) : Int)))]) (fun k => [.own (.slice A0 (vs.length) c0) 3 1 (vs.length) (ints (nl (mixV j t k vs)))]) (fun k => k ≤ vs.length) (fun k => vs.length - k) 0 ?_ ?_ ?_ ?_
 ·exact Nat.zero_le _
 ·exact ⟨rfl, trivial⟩
 ·exact ((Weak.refl _).trans (Some'.weak (.takeEq (by first | rfl | (rw [mixV_zero]) | (rw [mixV_keep hkl hbit]) | (rw [ints_nl_set, mixV_nx hkl, hq, ← mixV_set hkl, addV, if_pos hbit])) (.nil _))))
 ·rintro k fr hinv
  show Run _ _ (over _ _ [(10, .int .i64 (((k : Nat) : Int)))] fr) [.own (.slice A0 (vs.length) c0) 3 1 (vs.length) (ints (nl (mixV j t k vs)))]
  try dsimp only at hinv
  refine Run.sr ?_
  refine Run.p (.bool (decide ((((k : Nat) : Int)) < (((vs.length : Nat) : Int))))) rfl rfl ?_
  refine Run.done ?_
  refine Run.seq ?_
  refine Run.cond (b := decide ((((k : Nat) : Int)) < (((vs.length : Nat) : Int)))) rfl (fun h11 => ?_) (fun h11 => ?_)
  ·have p11 := h11; try simp only [bs] at p11
   have hkl : k < vs.length := by omega
   have hml := mixV_length j t vs k
   have hx32 : nx vs k < 32 := hb32 _ (nxIn hkl)
   refine Run.openOwn (.head _) (by omega) (fun gv cv hvgv hcapgv _ => ?_) (fun _ _ _ => ⟨nofun, nofun, nofun⟩)
   injection hvgv with hAgv _ hcgv; subst hAgv; subst hcgv
   refine Run.skip ?_
   refine Run.seq ?_
   refine Run.block ?_
   refine Run.sr ?_
   refine Run.p (.int .i64 (((k : Nat) : Int))) rfl rfl ?_
   refine Run.y (.pointer (some ⟨gv, k, none⟩)) rfl (OpY.index (kk := k) Tsl_22 rfl rfl (by omega) (by omega) (by first | rfl | omega)) ?_
   refine Run.y (.int .i64 (ix (nl (mixV j t k vs)) (k))) rfl (OpY.load1 Tone_3 rfl (Cells.own0 (.head _) (pre1 (by first | omega | (simp only [ints_length, nl_length, mixV_length]; omega))))) ?_
   refine Run.p (.int .i64 (((k : Nat) : Int))) rfl rfl ?_
   refine Run.p (.int .i64 (ix (nl (mixV j t k vs)) (k))) rfl rfl ?_
   refine Run.dsr ?_
   refine Run.p (.int .i64 (ix (nl (mixV j t k vs)) (k))) rfl rfl ?_
   refine Run.p (.int .i64 (((t : Nat) : Int))) rfl rfl ?_
   refine Run.y (.int .u64 (((t : Nat) : Int))) rfl (OpY.convIntEq Tsome_3 Tint_96 rfl (by rw [IntKind.wrap_u64]; omega)) ?_
   refine Run.y (.int .i64 ((ix (nl (mixV j t k vs)) (k)) >>> t)) rfl (OpY.shr rfl rfl (by first | rfl | omega) (by omega)) ?_
   refine Run.y (.int .i64 (((ix (nl (mixV j t k vs)) (k)) >>> t) % 2)) rfl (OpY.and1 rfl rfl) ?_
   refine Run.p (.bool ((((ix (nl (mixV j t k vs)) (k)) >>> t) % 2) == 1)) rfl rfl ?_
   refine Run.done ?_
   refine Run.cond (b := (((ix (nl (mixV j t k vs)) (k)) >>> t) % 2) == 1) rfl (fun h20 => ?_) (fun h20 => ?_)
   ·have p20 := h20; try simp only [bs] at p20
    have hbit : (nx vs k).testBit t = true := by rw [← mixV_nx (j := j) (t := t) hkl, ← bitI_nl]; exact bitI_true p20
    refine Run.region ?_
    refine Run.p (.slice (some ⟨gv, 0, none⟩) (vs.length) c0) rfl rfl ?_
    refine Run.p (.int .i64 (((k : Nat) : Int))) rfl rfl ?_
    refine Run.p (.int .i64 (ix (nl (mixV j t k vs)) (k))) rfl rfl ?_
    refine Run.p (.int .i64 (((j : Nat) : Int))) rfl rfl ?_
    refine Run.y (.int .u64 (((j : Nat) : Int))) rfl (OpY.convIntEq Tsome_3 Tint_96 rfl (by rw [IntKind.wrap_u64]; omega)) ?_
    refine Run.y (.int .i64 (((q : Nat) : Int))) rfl (OpY.shlOne rfl rfl rfl (by omega) hq) ?_
    refine Run.y (.int .i64 (((nx (mixV j t k vs) k ^^^ q : Nat) : Int))) rfl (OpY.xorNat rfl rfl (ix_nl _ _) rfl (by rw [mixV_nx (by omega)]; omega) (by omega)) ?_
    refine Run.y (.pointer (some ⟨gv, k, none⟩)) rfl (OpY.index (kk := k) Tsl_22 rfl rfl (by omega) (by omega) (by first | rfl | omega)) ?_
    refine Run.step rfl (OpStep.storeOwnInt (o := k) (a := ((nx (mixV j t k vs) k ^^^ q : Nat) : Int)) Tsize_3 rfl rfl (.here _) (by first | omega | (simp only [ints_length, nl_length, mixV_length]; omega)) ?_)
    refine Run.done ?_
    refine Run.blockEnd ?_
    refine Run.region ?_
    refine Run.y (.int .i64 ((((k : Nat) : Int)) + 1)) rfl (OpY.add rfl rfl rfl (by omega) (by omega)) ?_
    refine Run.p (.int .i64 ((((k : Nat) : Int)) + 1)) rfl rfl ?_
    refine Run.done ?_
    refine Run.goal ⟨(by repeat (first | exact Same.refl _ _ | refine Same.put rfl ?_ | refine Same.over rfl rfl ?_)), k + 1, ?_, ?_, ?_, ?_⟩
    ·omega
    ·omega
    ·exact ⟨(by first | rfl | (congr 1; omega) | simp), trivial⟩
    ·exact ((Weak.refl _).trans (Some'.weak (.takeEq (by first | rfl | (rw [mixV_zero]) | (rw [mixV_keep hkl hbit]) | (rw [ints_nl_set, mixV_nx hkl, hq, ← mixV_set hkl, addV, if_pos hbit])) (.nil _))))
   ·have p20 := h20; try simp only [bs] at p20
    have hbit : (nx vs k).testBit t = false := by rw [← mixV_nx (j := j) (t := t) hkl, ← bitI_nl]; exact bitI_ne1 p20
    refine Run.skip ?_
    refine Run.blockEnd ?_
    refine Run.region ?_
    refine Run.y (.int .i64 ((((k : Nat) : Int)) + 1)) rfl (OpY.add rfl rfl rfl (by omega) (by omega)) ?_
    refine Run.p (.int .i64 ((((k : Nat) : Int)) + 1)) rfl rfl ?_
    refine Run.done ?_
    refine Run.goal ⟨(by repeat (first | exact Same.refl _ _ | refine Same.put rfl ?_ | refine Same.over rfl rfl ?_)), k + 1, ?_, ?_, ?_, ?_⟩
    ·omega
    ·omega
    ·exact ⟨(by first | rfl | (congr 1; omega) | simp), trivial⟩
    ·exact ((Weak.refl _).trans (Some'.weak (.takeEq (by first | rfl | (rw [mixV_zero]) | (rw [mixV_keep hkl hbit]) | (rw [ints_nl_set, mixV_nx hkl, hq, ← mixV_set hkl, addV, if_pos hbit])) (.nil _))))
  ·have p11 := h11; try simp only [bs] at p11
   have hkn : k = vs.length := by omega
   refine Run.exit rfl ?_
   refine Run.fin ?_
   refine ⟨.tuple #[], [.own (.slice A0 (vs.length) c0) 3 1 (vs.length) (ints (nl (vs.map (addV j t))))], Out.none rfl, (Some'.weak (.takeEq (by first | rfl | (rw [hkn, mixV_all])) (.nil _))), ?_⟩
   exact ⟨rfl, rfl⟩

end Go.Proofs.Yteehfidjofcfmaa
