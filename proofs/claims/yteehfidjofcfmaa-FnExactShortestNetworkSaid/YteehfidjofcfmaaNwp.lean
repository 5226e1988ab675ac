/- Plain laws: networks: every map and every set of masks is reached. -/
import Derived.Test.YteehfidjofcfmaaSlx
set_option linter.unusedSimpArgs false
set_option linter.unusedVariables false
namespace Go.Proofs.Yteehfidjofcfmaa
open Go Go.RowKit

/-- Masks from 1 to 2 ^ n - 1, each greater than the one before it. -/
def mskAt (n : Nat) (ms : List Int) (i : Nat) : Bool := within (ix ms i) 1 (((2 ^ n : Nat) : Int) - 1) && decide (0 < i → ix ms (i - 1) < ix ms i)
def mskOk (n : Nat) (ms : List Int) (k : Nat) : Bool := within (n : Int) 1 5 && allI (mskAt n ms) k
theorem msk_at {n k : Nat} {ms : List Int} (h : mskOk n ms k = true) {i : Nat} (hi : i < k) : 1 ≤ ix ms i ∧ ix ms i < ((2 ^ n : Nat) : Int) ∧ (0 < i → ix ms (i - 1) < ix ms i) := by
  simp only [mskOk, Bool.and_eq_true] at h
  have h1 := allI_iff.1 h.2 i hi
  simp only [mskAt, Bool.and_eq_true, within_iff, decide_eq_true_eq] at h1
  exact ⟨h1.1.1, by omega, h1.2⟩
theorem msk_lt {n k : Nat} {ms : List Int} (h : mskOk n ms k = true) : ∀ {i j : Nat}, i < j → j < k → ix ms i < ix ms j := by
  intro i j hij hj
  induction j with
  | zero => omega
  | succ j ih =>
    have h1 := (msk_at h hj).2.2 (by omega)
    rw [show j + 1 - 1 = j by omega] at h1
    rcases Nat.lt_or_eq_of_le (Nat.lt_succ_iff.1 hij) with h2 | h2
    · exact Int.lt_trans (ih h2 (by omega)) h1
    · subst h2; exact h1
theorem msk_low {n k : Nat} {ms : List Int} (h : mskOk n ms k = true) : ∀ {i : Nat}, i < k → (i : Int) + 1 ≤ ix ms i := by
  intro i hi
  induction i with
  | zero => exact (msk_at h hi).1
  | succ i ih =>
    have h1 := ih (by omega)
    have h2 := msk_lt h (show i < i + 1 by omega) hi
    omega
theorem msk_len {n k : Nat} {ms : List Int} (h : mskOk n ms k = true) : k < 2 ^ n := by
  rcases Nat.eq_zero_or_pos k with h0 | h0
  · rw [h0]; exact Nat.two_pow_pos n
  · have h1 := msk_low h (show k - 1 < k by omega)
    have h2 := (msk_at h (show k - 1 < k by omega)).2.1
    omega
theorem msk_inj {n k : Nat} {ms : List Int} (h : mskOk n ms k = true) {i j : Nat} (hi : i < k) (hj : j < k) (e : ix ms i = ix ms j) : i = j := by
  rcases Nat.lt_trichotomy i j with h1 | h1 | h1
  · have := msk_lt h h1 hj; omega
  · exact h1
  · have := msk_lt h h1 hi; omega
/-- What is noted contains every mask that is a row. -/
def Noted (ms : List Int) (l : List Nat) (f : Nat) : Prop := ∀ i, i < ms.length → (∃ j, j < l.length ∧ ((nx l j : Nat) : Int) = ix ms i) → f.testBit i = true
theorem findI_sat {p : Nat → Bool} : ∀ {n : Nat}, 0 ≤ findI p n → p (findI p n).toNat = true
  | 0, h => by simp [findI] at h
  | n + 1, h => by
    rw [findI] at h ⊢
    split at h
    · rename_i ha
      rw [if_pos ha]
      exact findI_sat h
    · rename_i ha
      rw [if_neg ha]
      split at h
      · rename_i hp; rw [if_pos hp]; simpa using hp
      · omega
theorem apx_bit {n f : Nat} {ms : List Int} {x : Int} (h : mskOk n ms ms.length = true) {i : Nat} (hi : i < ms.length) : (apx f ms x).testBit i = (f.testBit i || decide (ix ms i = x)) := by
  unfold apx
  by_cases h0 : 0 ≤ findI (fun i => decide (ix ms i = x)) ms.length
  · rw [if_pos h0, Nat.testBit_or, Nat.testBit_two_pow]
    obtain ⟨j, hj⟩ : ∃ j : Nat, findI (fun i => decide (ix ms i = x)) ms.length = j := ⟨(findI (fun i => decide (ix ms i = x)) ms.length).toNat, by omega⟩
    have hjl : j < ms.length := by have := findI_ltn h0; omega
    have hjx : ix ms j = x := by
      have := findI_sat h0
      rw [hj, Int.toNat_natCast] at this
      simpa using this
    rw [hj, Int.toNat_natCast]
    congr 1
    rw [Bool.eq_iff_iff, decide_eq_true_eq, decide_eq_true_eq]
    constructor
    · rintro rfl; exact hjx
    · intro e; exact msk_inj h hjl hi (hjx.trans e.symm)
  · rw [if_neg h0]
    have hno : ∀ k, k < ms.length → decide (ix ms k = x) = false := fun k hk => by
      cases hd : decide (ix ms k = x) with
      | false => rfl
      | true => exact absurd (findI_nonneg.2 (anyI_iff.2 ⟨k, hk, hd⟩)) h0
    rw [hno i hi, Bool.or_false]
theorem noted_step {n : Nat} {ms : List Int} {l : List Nat} {f : Nat} (h : mskOk n ms ms.length = true) (hk : Noted ms l f) (e : Nat) : Noted ms (lstep n ms (l, f) e).1 (lstep n ms (l, f) e).2 := by
  intro i hi hj
  obtain ⟨j, hj, hx⟩ := hj
  simp only [lstep] at hj hx ⊢
  rw [apx_bit h hi]
  have hjl : j < l.length := by simpa [cx] using hj
  by_cases hje : e % n = j
  · subst hje; rw [decide_eq_true hx.symm, Bool.or_true]
  · rw [nx_cx hjl, if_neg hje] at hx
    rw [hk i hi ⟨j, hjl, hx⟩, Bool.true_or]
theorem apF_bit {n : Nat} {ms : List Int} (h : mskOk n ms ms.length = true) {i : Nat} (hi : i < ms.length) : ∀ {q : Nat}, (∃ j, j < q ∧ ((2 ^ j : Nat) : Int) = ix ms i) → (apF ms q).testBit i = true
  | 0, ⟨j, hj, _⟩ => by omega
  | q + 1, ⟨j, hj, he⟩ => by
    rw [apF, apx_bit h hi]
    by_cases hjq : j = q
    · subst hjq; rw [decide_eq_true he.symm, Bool.or_true]
    · rw [apF_bit h hi (q := q) ⟨j, by omega, he⟩, Bool.true_or]
theorem noted_id {n : Nat} {ms : List Int} (h : mskOk n ms ms.length = true) : Noted ms (idL n) (apF ms n) := by
  intro i hi hj
  obtain ⟨j, hj, he⟩ := hj
  have hjn : j < n := by simpa [idL] using hj
  rw [nx_idL hjn] at he
  exact apF_bit h hi ⟨j, hjn, he⟩
theorem bev_fst (n : Nat) (ms : List Int) : ∀ (v : List Nat) (k : List Nat × Nat), (bev (lstep n ms) k v).1 = cxs k.1 (dcw n v)
  | [], _ => rfl
  | e :: v, k => by
    have := bev_fst n ms v (lstep n ms k e)
    simp only [bev, List.foldl_cons] at this ⊢
    rw [this]; rfl
theorem bev_app {K : Type} (step : K → Nat → K) (s : K) (u v : List Nat) : bev step s (u ++ v) = bev step (bev step s u) v := by simp [bev, List.foldl_append]
/-- What a word keeps. -/
theorem bev_keep {n : Nat} {ms : List Int} (h : mskOk n ms ms.length = true) : ∀ (v : List Nat) (k : List Nat × Nat), mK n ms k → Noted ms k.1 k.2 →
    mK n ms (bev (lstep n ms) k v) ∧ Noted ms (bev (lstep n ms) k v).1 (bev (lstep n ms) k v).2 ∧ ∀ i, i < ms.length → k.2.testBit i = true → (bev (lstep n ms) k v).2.testBit i = true
  | [], _, h1, h2 => ⟨h1, h2, fun _ _ h => h⟩
  | e :: v, k, h1, h2 => by
    have h3 : mK n ms (lstep n ms k e) := mK_step e h1
    have h4 : Noted ms (lstep n ms k e).1 (lstep n ms k e).2 := noted_step h h2 e
    obtain ⟨g1, g2, g3⟩ := bev_keep h v (lstep n ms k e) h3 h4
    refine ⟨g1, g2, fun i hi hb => g3 i hi ?_⟩
    simp only [lstep]
    rw [apx_bit h hi, hb, Bool.true_or]
/-- A map with a given row. -/
theorem row_word {n x : Nat} (hx0 : 0 < x) (hx : x < 2 ^ n) : ∃ w k, WOk n w ∧ w.length ≤ n ∧ k < n ∧ nx (cxs (idL n) w) k = x := by
  have hne : ∃ k, x.testBit k = true := by
    refine Classical.byContradiction fun hn => ?_
    have : x = 0 := Nat.eq_of_testBit_eq fun j => by
      cases hb : x.testBit j with
      | false => simp
      | true => exact absurd ⟨j, hb⟩ hn
    omega
  obtain ⟨k, hk⟩ := hne
  have hkn : k < n := Classical.byContradiction fun hn => by
    have := Nat.testBit_lt_two_pow (Nat.lt_of_lt_of_le hx (Nat.pow_le_pow_right (by omega) (show n ≤ k by omega)))
    rw [hk] at this; cases this
  have key : ∀ t, t ≤ n → ∃ w, WOk n w ∧ w.length ≤ t ∧ (∀ j, j < n → j ≠ k → nx (cxs (idL n) w) j = 2 ^ j) ∧ ∀ b, (nx (cxs (idL n) w) k).testBit b = (decide (b = k) || (decide (b < t) && x.testBit b)) := by
    intro t
    induction t with
    | zero => exact fun _ => ⟨[], fun e he => (by cases he), Nat.le_refl _, fun j hj _ => nx_idL hj, fun b => by
        show (nx (idL n) k).testBit b = _
        rw [nx_idL hkn, Nat.testBit_two_pow]
        by_cases hb : b = k
        · subst hb; simp
        · have hb' : ¬ k = b := fun e => hb e.symm
          simp [hb, hb']⟩
    | succ t ih =>
      intro ht
      obtain ⟨w, h1, h2, h3, h4⟩ := ih (by omega)
      by_cases hc : t ≠ k ∧ x.testBit t = true
      · have hlen : (cxs (idL n) w).length = n := by rw [cxs_length, idL_length]
        have hE : cxs (idL n) (w ++ [(t, k)]) = cx (cxs (idL n) w) (t, k) := by rw [cxs_append]; rfl
        refine ⟨w ++ [(t, k)], fun e he => ?_, by simp; omega, fun j hj hjk => ?_, fun b => ?_⟩
        · rcases List.mem_append.1 he with he | he
          · exact h1 e he
          · simp only [List.mem_singleton] at he; subst he; exact ⟨by omega, hkn, hc.1⟩
        · rw [hE, nx_cx (by rw [hlen]; exact hj), if_neg (fun e => hjk e.symm), h3 j hj hjk]
        · rw [hE, nx_cx (by rw [hlen]; exact hkn), if_pos rfl, Nat.testBit_xor, h4 b, h3 t (by omega) hc.1, Nat.testBit_two_pow]
          by_cases hbt : b = t
          · subst hbt
            have : ¬ b = k := hc.1
            simp [this, hc.2]
          · have h5 : ¬ t = b := fun e => hbt e.symm
            have h6 : decide (b < t + 1) = decide (b < t) := by rw [Bool.eq_iff_iff, decide_eq_true_eq, decide_eq_true_eq]; omega
            simp [h5, h6]
      · refine ⟨w, h1, by omega, h3, fun b => ?_⟩
        rw [h4 b]
        by_cases hbt : b = t
        · subst hbt
          by_cases hbk : b = k
          · simp [hbk]
          · have : x.testBit b = false := by
              cases hb : x.testBit b with
              | false => rfl
              | true => exact absurd ⟨hbk, hb⟩ hc
            simp [this]
        · have h6 : decide (b < t + 1) = decide (b < t) := by rw [Bool.eq_iff_iff, decide_eq_true_eq, decide_eq_true_eq]; omega
          rw [h6]
  obtain ⟨w, h1, h2, _, h4⟩ := key n (Nat.le_refl _)
  refine ⟨w, k, h1, h2, hkn, Nat.eq_of_testBit_eq fun b => ?_⟩
  rw [h4 b]
  by_cases hbk : b = k
  · subst hbk; simp [hk]
  · by_cases hbn : b < n
    · simp [hbk, hbn]
    · have := Nat.testBit_lt_two_pow (Nat.lt_of_lt_of_le hx (Nat.pow_le_pow_right (by omega) (show n ≤ b by omega)))
      simp [hbk, this]
/-- Every mask can be visited. -/
theorem nw_visit {n : Nat} {ms : List Int} (h : mskOk n ms ms.length = true) : ∀ t, t ≤ ms.length → ∃ v f, BW (lok n) (n * n) v ∧ v.length ≤ t * (2 * n) ∧ bev (lstep n ms) (idL n, apF ms n) v = (idL n, f) ∧ ∀ i, i < t → f.testBit i = true
  | 0, _ => ⟨[], apF ms n, fun e he => (by cases he), by simp, rfl, fun i hi => by omega⟩
  | t + 1, ht => by
    obtain ⟨v, f, h1, h2, h3, h4⟩ := nw_visit h t (by omega)
    obtain ⟨g1, g2, _⟩ := msk_at h (show t < ms.length by omega)
    obtain ⟨x, hx⟩ : ∃ x : Nat, (x : Int) = ix ms t := ⟨(ix ms t).toNat, by omega⟩
    obtain ⟨w, k, k1, k2, k3, k4⟩ := row_word (n := n) (x := x) (by omega) (by omega)
    obtain ⟨u, u1, u2, u3⟩ := word_of k1
    have k1r : WOk n w.reverse := fun e he => k1 e (List.mem_reverse.1 he)
    obtain ⟨u', u1', u2', u3'⟩ := word_of k1r
    have hkey := bev_keep h v (idL n, apF ms n) (mK_id n ms) (noted_id h)
    rw [h3] at hkey
    obtain ⟨c1, c2, c3⟩ := bev_keep h u (idL n, f) hkey.1 hkey.2.1
    obtain ⟨d1, d2, d3⟩ := bev_keep h u' _ c1 c2
    have e1 : (bev (lstep n ms) (idL n, f) u).1 = cxs (idL n) w := by rw [bev_fst]; simp only [dcw]; rw [u3]
    have e2 : (bev (lstep n ms) (bev (lstep n ms) (idL n, f) u) u').1 = idL n := by
      rw [bev_fst, e1]
      simp only [dcw]
      rw [u3', cxs_back w (idL n) (idL_length n) k1]
    have ht' : (bev (lstep n ms) (idL n, f) u).2.testBit t = true := by
      refine c2 t (by omega) ⟨k, ?_, ?_⟩
      · rw [e1, cxs_length, idL_length]; exact k3
      · rw [e1, k4]; exact hx
    refine ⟨v ++ (u ++ u'), (bev (lstep n ms) (bev (lstep n ms) (idL n, f) u) u').2, fun e he => ?_, ?_, ?_, fun i hi => ?_⟩
    · rcases List.mem_append.1 he with he | he
      · exact h1 e he
      · rcases List.mem_append.1 he with he | he
        · exact u1 e he
        · exact u1' e he
    · have hr : w.reverse.length = w.length := List.length_reverse
      rw [List.length_append, List.length_append, u2, u2', hr, Nat.add_mul]; omega
    · rw [bev_app, h3, bev_app]; exact Prod.ext e2 rfl
    · by_cases hit : i = t
      · subst hit; exact d3 i (by omega) ht'
      · exact d3 i (by omega) (c3 i (by omega) (h4 i (by omega)))
theorem nw_reach {n : Nat} {ms : List Int} {m : List Nat} (h : mskOk n ms ms.length = true) (hl : m.length = n) (hb : ∀ i, i < n → nx m i < 2 ^ n) (hi : Indep m) :
    ∃ v, BW (lok n) (n * n) v ∧ v.length ≤ ms.length * (2 * n) + n * (n + 3) ∧ bev (lstep n ms) (idL n, apF ms n) v = (m, 2 ^ ms.length - 1) := by
  obtain ⟨v, f, h1, h2, h3, h4⟩ := nw_visit h ms.length (Nat.le_refl _)
  obtain ⟨w, k1, k2, k3⟩ := full_reach hl hb hi
  obtain ⟨u, u1, u2, u3⟩ := word_of k1
  have hkey := bev_keep h v (idL n, apF ms n) (mK_id n ms) (noted_id h)
  rw [h3] at hkey
  obtain ⟨c1, c2, c3⟩ := bev_keep h u (idL n, f) hkey.1 hkey.2.1
  refine ⟨v ++ u, fun e he => ?_, by rw [List.length_append, u2]; omega, ?_⟩
  · rcases List.mem_append.1 he with he | he
    · exact h1 e he
    · exact u1 e he
  · rw [bev_app, h3]
    refine Prod.ext ?_ (Nat.eq_of_testBit_eq fun i => ?_)
    · rw [bev_fst]; simp only [dcw]; rw [u3, k3]
    · simp only [Nat.testBit_two_pow_sub_one]
      by_cases hil : i < ms.length
      · rw [c3 i hil (h4 i hil), decide_eq_true hil]
      · rw [decide_eq_false hil]
        exact Nat.testBit_lt_two_pow (Nat.lt_of_lt_of_le c1.2.2 (Nat.pow_le_pow_right (by omega) (by omega)))
/-- The queue stays small. -/
def cdM (k : List Nat × Nat) : Nat := cdN k.1 k.1.length * 128 + k.2
theorem mQ_small {n : Nat} {ms : List Int} (h3 : n ≤ 3) (hm : ms.length ≤ 7) (i : Nat) : (mQ n ms i).length ≤ 1000000 := by
  refine Nat.le_trans (bfs_small (p := mK n ms) (code := cdM) (M := 524288) (fun k e h _ _ => mK_step e h) (mK_id n ms) (fun k h => ?_) (fun k k' h h' e => ?_) i) (by decide)
  · have h1 : cdN k.1 k.1.length < 4096 := Nat.lt_of_lt_of_le (cdN_lt (fun j => Nat.lt_of_lt_of_le (h.2.1 j) (pow16 (by omega))) _) (by rw [h.1]; exact Nat.le_trans (Nat.pow_le_pow_right (by omega) h3) (by decide))
    have h2 : k.2 < 128 := Nat.lt_of_lt_of_le h.2.2 (Nat.le_trans (Nat.pow_le_pow_right (by omega) hm) (by decide))
    simp only [cdM]; omega
  · have h2 : k.2 < 128 := Nat.lt_of_lt_of_le h.2.2 (Nat.le_trans (Nat.pow_le_pow_right (by omega) hm) (by decide))
    have h2' : k'.2 < 128 := Nat.lt_of_lt_of_le h'.2.2 (Nat.le_trans (Nat.pow_le_pow_right (by omega) hm) (by decide))
    simp only [cdM] at e
    have h4 := code_inj (h.1.trans h'.1.symm) (fun j => Nat.lt_of_lt_of_le (h.2.1 j) (pow16 (by omega))) (fun j => Nat.lt_of_lt_of_le (h'.2.1 j) (pow16 (by omega))) (by omega)
    refine Prod.ext h4 ?_
    rw [h4] at e; omega
theorem mQ_found {n : Nat} {ms : List Int} {m : List Nat} (h : mskOk n ms ms.length = true) (hl : m.length = n) (hb : ∀ i, i < n → nx m i < 2 ^ n) (hi : Indep m) {i : Nat} (hq : (mQ n ms i).length ≤ i) : (m, 2 ^ ms.length - 1) ∈ (mQ n ms i).map (·.1) := by
  obtain ⟨v, h1, _, h3⟩ := nw_reach h hl hb hi
  obtain ⟨y, hy, h5, _⟩ := bfs_min (step := lstep n ms) (ok := lok n) (E := n * n) (s := (idL n, apF ms n)) hq v h1
  rw [h3] at h5
  exact List.mem_map.2 ⟨y, hy, h5⟩
/-- An entry's path is the same in all queues; it is not longer than any word to its key. -/
theorem mQ_one {n i j : Nat} {ms : List Int} {k : List Nat × Nat} {p q : List Nat} (hp : (k, p) ∈ mQ n ms i) (hq : (k, q) ∈ mQ n ms j) : p = q := by
  obtain ⟨t, ht⟩ := bfs_le (step := lstep n ms) (ok := lok n) (E := n * n) (s := (idL n, apF ms n)) (i := i) (j := max i j) (Nat.le_max_left _ _)
  obtain ⟨u, hu⟩ := bfs_le (step := lstep n ms) (ok := lok n) (E := n * n) (s := (idL n, apF ms n)) (i := j) (j := max i j) (Nat.le_max_right _ _)
  have h1 : (k, p) ∈ bfs (lstep n ms) (lok n) (n * n) (idL n, apF ms n) (max i j) := by rw [ht]; exact List.mem_append.2 (.inl hp)
  have h2 : (k, q) ∈ bfs (lstep n ms) (lok n) (n * n) (idL n, apF ms n) (max i j) := by rw [hu]; exact List.mem_append.2 (.inl hq)
  exact (Prod.ext_iff.1 (bfs_one h1 h2 rfl)).2
theorem mQ_len {n i : Nat} {ms : List Int} {m : List Nat} (h3 : n ≤ 3) (h : mskOk n ms ms.length = true) (hl : m.length = n) (hb : ∀ i, i < n → nx m i < 2 ^ n) (hi : Indep m) {p : List Nat} (hp : ((m, 2 ^ ms.length - 1), p) ∈ mQ n ms i) : p.length ≤ 60 := by
  have hm7 : ms.length ≤ 7 := by have := msk_len h; have h8 : 2 ^ n ≤ 2 ^ 3 := Nat.pow_le_pow_right (by omega) h3; omega
  obtain ⟨v, h1, h2, h4⟩ := nw_reach h hl hb hi
  obtain ⟨y, hy, h5, h6⟩ := bfs_min (step := lstep n ms) (ok := lok n) (E := n * n) (s := (idL n, apF ms n)) (i := 1000000) (mQ_small h3 hm7 _) v h1
  rw [h4] at h5
  have h7 : p = y.2 := mQ_one hp (j := 1000000) (by rw [← h5]; exact hy)
  have h8 := sle_len h6
  rw [← h7] at h8
  have h9 : ms.length * (2 * n) ≤ 7 * 6 := Nat.mul_le_mul hm7 (by omega)
  have h10 : n * (n + 3) ≤ 3 * 6 := Nat.mul_le_mul h3 (by omega)
  omega

end Go.Proofs.Yteehfidjofcfmaa
