/- Plain laws: chains of a flow, how many nodes have no layer at the start. -/
import Derived.Test.YtoiaibgcjfgbcaaFlp
set_option linter.unusedSimpArgs false
set_option linter.unusedVariables false
namespace Go.Proofs.Ytoiaibgcjfgbcaa
open Go Go.RowKit

/-- The chain from u. -/
def chL (nx : List Int) : Nat → Int → List Int
  | 0, _ => []
  | f + 1, u => if u < 0 then [] else u :: chL nx f (ix nx u.toNat)
/-- The chains that begin below k. -/
def chN (nx : List Int) (n : Nat) : Nat → List (List Int)
  | 0 => []
  | v + 1 => chN nx n v ++ if hasI nx (v : Int) n then [] else [chL nx 102 (v : Int)]
/-- A map of nodes that lowers layers. -/
structure NxI (nx ly : List Int) (n : Nat) : Prop where
  rng : ∀ v, v < n → ix nx v = -1 ∨ ∃ u : Nat, u < n ∧ ix nx v = (u : Int)
  low : ∀ v, v < n → ∀ u : Nat, ix nx v = (u : Int) → ix ly u < ix ly v
  lay : ∀ v, v < n → 0 ≤ ix ly v ∧ ix ly v ≤ 100
  inj : ∀ v w, v < n → w < n → 0 ≤ ix nx v → ix nx v = ix nx w → v = w
theorem FlI.nxI {es : List Int} {m n : Nat} {is : List Int} {ni : Nat} {os : List Int} {no k : Nat} {nx ly : List Int} (hk : k ≤ 101) (h : FlI es m n is ni os no k nx ly) (h0 : unl ly n = 0) : NxI nx ly n := by
  have hp := unl_zero.1 h0
  have hcase : ∀ v, v < n → ix nx v = -1 ∨ ∃ u : Nat, u < n ∧ ix nx v = (u : Int) ∧ ix ly u < ix ly v := by
    intro v hv
    by_cases h1 : 1 ≤ ix ly v
    · obtain ⟨u, hu, h2, _, _, h5, _⟩ := h.nxs v hv h1
      exact .inr ⟨u, hu, h2, h5.2⟩
    · exact .inl (h.nxo v hv (by omega))
  refine ⟨fun v hv => ?_, fun v hv u hu => ?_, fun v hv => ?_, h.inj⟩
  · rcases hcase v hv with h1 | ⟨u, h1, h2, _⟩
    · exact .inl h1
    · exact .inr ⟨u, h1, h2⟩
  · rcases hcase v hv with h1 | ⟨u', h1, h2, h3⟩
    · omega
    · have : u = u' := by omega
      subst this; exact h3
  · have := h.dom v hv
    have := hp v hv
    omega
theorem ch_mem {nx ly : List Int} {n : Nat} (h : NxI nx ly n) : ∀ (f : Nat) (u : Int), (u < 0 ∨ u < n) → ∀ x ∈ chL nx f u, 0 ≤ x ∧ x < n
  | 0, _, _, x, hx => by simp [chL] at hx
  | f + 1, u, hu, x, hx => by
    rw [chL] at hx
    split at hx
    · cases hx
    · rename_i h0
      rcases List.mem_cons.1 hx with rfl | hx
      · omega
      · refine ch_mem h f _ ?_ x hx
        rcases h.rng u.toNat (by omega) with h1 | ⟨w, hw, h1⟩ <;> rw [h1] <;> omega
theorem ch_len (nx : List Int) : ∀ (f : Nat) (u : Int), (chL nx f u).length ≤ f
  | 0, _ => by simp [chL]
  | f + 1, u => by
    rw [chL]
    split
    · simp
    · rw [List.length_cons]; have := ch_len nx f (ix nx u.toNat); omega
/-- The chain is as long with more fuel. -/
theorem ch_fuel {nx ly : List Int} {n : Nat} (h : NxI nx ly n) : ∀ (f g : Nat) (u : Int), (u < 0 ∨ (u < n ∧ ix ly u.toNat < f ∧ ix ly u.toNat < g)) → chL nx (f + 1) u = chL nx (g + 1) u
  | f, g, u, hu => by
    rw [chL, chL]
    by_cases h0 : u < 0
    · rw [if_pos h0, if_pos h0]
    · rw [if_neg h0, if_neg h0]
      have h1 : u < n ∧ ix ly u.toNat < f ∧ ix ly u.toNat < g := by omega
      have hl := h.lay u.toNat (by omega)
      obtain ⟨f', rfl⟩ : ∃ q, f = q + 1 := ⟨f - 1, by omega⟩
      obtain ⟨g', rfl⟩ : ∃ q, g = q + 1 := ⟨g - 1, by omega⟩
      congr 1
      refine ch_fuel h f' g' _ ?_
      rcases h.rng u.toNat (by omega) with h2 | ⟨w, hw, h2⟩
      · omega
      · have := h.low u.toNat (by omega) w h2
        rw [h2]; simp only [Int.toNat_natCast]; omega
theorem ch_count {nx ly : List Int} {n w : Nat} (h : NxI nx ly n) (hw : w < n) : ∀ (f : Nat) (u : Int), (u < 0 ∨ (u < n ∧ ix ly u.toNat < f)) →
    (∀ p, p < n → ix nx p = (w : Int) → (chL nx f u).count (w : Int) = (if u = (w : Int) then 1 else 0) + (chL nx f u).count (p : Int)) ∧
    (hasI nx (w : Int) n = false → (chL nx f u).count (w : Int) = if u = (w : Int) then 1 else 0)
  | 0, u, hu => by
    have h0 : u < 0 := by
      rcases hu with h1 | ⟨h1, h2⟩
      · exact h1
      · refine Decidable.byContradiction fun h3 => ?_
        have := (h.lay u.toNat (by omega)).1
        omega
    have h1 : ¬ u = (w : Int) := by omega
    simp [chL, h1]
  | f + 1, u, hu => by
    rw [chL]
    by_cases h0 : u < 0
    · have h1 : ¬ u = (w : Int) := by omega
      simp [h0, h1]
    · rw [if_neg h0]
      have h1 : u < n ∧ ix ly u.toNat < f + 1 := by omega
      have hun : u.toNat < n := by omega
      have hnext : ix nx u.toNat < 0 ∨ (ix nx u.toNat < n ∧ ix ly (ix nx u.toNat).toNat < f) := by
        rcases h.rng u.toNat hun with h2 | ⟨x, hx, h2⟩
        · omega
        · have := h.low u.toNat hun x h2
          rw [h2]; simp only [Int.toNat_natCast]; omega
      obtain ⟨ih1, ih2⟩ := ch_count h hw f _ hnext
      refine ⟨fun p hp hpw => ?_, fun hno => ?_⟩
      · rw [List.count_cons, List.count_cons, ih1 p hp hpw]
        have hiff : (ix nx u.toNat = (w : Int)) ↔ (u = (p : Int)) := by
          constructor
          · intro h2
            have := h.inj u.toNat p hun hp (by omega) (by rw [h2, hpw])
            omega
          · rintro rfl; simpa using hpw
        have e1 : (if (u == (w : Int)) = true then 1 else 0) = (if u = (w : Int) then 1 else 0) := by by_cases e : u = (w : Int) <;> simp [e]
        have e2 : (if (u == (p : Int)) = true then 1 else 0) = (if u = (p : Int) then 1 else 0) := by by_cases e : u = (p : Int) <;> simp [e]
        rw [e1, e2]
        by_cases h3 : u = (p : Int)
        · rw [if_pos (hiff.2 h3), if_pos h3]; omega
        · rw [if_neg (fun h2 => h3 (hiff.1 h2)), if_neg h3]; omega
      · rw [List.count_cons, ih2 hno, if_neg (fun h2 => hasI_no.1 hno u.toNat hun h2)]
        by_cases h4 : u = (w : Int) <;> simp [h4]
def cntF (w : Int) (cs : List (List Int)) : Nat := (cs.map fun c => c.count w).sum
theorem cntF_append (w : Int) (a b : List (List Int)) : cntF w (a ++ b) = cntF w a + cntF w b := by simp [cntF]
/-- Each node is in the chains once. -/
theorem ch_once {nx ly : List Int} {n : Nat} (h : NxI nx ly n) : ∀ w, w < n → cntF (w : Int) (chN nx n n) = 1 := by
  have hstep : ∀ w, w < n → ∀ k, k ≤ n → (∀ p, p < n → ix nx p = (w : Int) → cntF (w : Int) (chN nx n k) = cntF (p : Int) (chN nx n k)) ∧ (hasI nx (w : Int) n = false → cntF (w : Int) (chN nx n k) = if w < k then 1 else 0) := by
    intro w hw k
    induction k with
    | zero => intro _; exact ⟨fun p _ _ => rfl, fun _ => by simp [chN, cntF]⟩
    | succ k ih =>
      intro hk
      obtain ⟨ih1, ih2⟩ := ih (by omega)
      have hl := h.lay k (by omega)
      obtain ⟨c1, c2⟩ := ch_count h hw 102 (k : Int) (.inr ⟨by omega, by simp only [Int.toNat_natCast]; omega⟩)
      refine ⟨fun p hp hpw => ?_, fun hno => ?_⟩
      · rw [chN, cntF_append, cntF_append, ih1 p hp hpw]
        by_cases hr : hasI nx (k : Int) n = true
        · rw [if_pos hr]; rfl
        · rw [if_neg hr]
          have hkw : ¬ (k : Int) = (w : Int) := by
            intro e
            refine hr (hasI_iff.2 ⟨p, hp, ?_⟩)
            rw [hpw, e]
          have := c1 p hp hpw
          rw [if_neg hkw, Nat.zero_add] at this
          simp [cntF, this]
      · rw [chN, cntF_append, ih2 hno]
        by_cases hr : hasI nx (k : Int) n = true
        · have : w ≠ k := by rintro rfl; rw [hno] at hr; cases hr
          rw [if_pos hr]
          simp only [cntF, List.map_nil, List.sum_nil]
          split <;> split <;> omega
        · have := c2 hno
          rw [if_neg hr]
          simp only [cntF, List.map_cons, List.map_nil, List.sum_cons, List.sum_nil, this]
          by_cases e : (k : Int) = (w : Int)
          · rw [if_pos e]; split <;> split <;> omega
          · rw [if_neg e]; split <;> split <;> omega
  have key : ∀ (d : Nat) (w : Nat), w < n → (101 - ix ly w).toNat = d → cntF (w : Int) (chN nx n n) = 1 := by
    intro d
    induction d using Nat.strongRecOn with
    | _ d ih =>
      intro w hw hd
      obtain ⟨h1, h2⟩ := hstep w hw n (Nat.le_refl _)
      cases hr : hasI nx (w : Int) n with
      | false => rw [h2 hr, if_pos hw]
      | true =>
        obtain ⟨p, hp, hpw⟩ := hasI_iff.1 hr
        rw [h1 p hp hpw]
        have hl := h.low p hp w hpw
        have := h.lay p hp
        have := h.lay w hw
        exact ih _ (by omega) p hp rfl
  exact fun w hw => key _ w hw rfl
/-- As many chains as nodes outside the image. -/
theorem chN_len (nx : List Int) (n : Nat) : ∀ k, (chN nx n k).length = ((List.range k).filter fun v : Nat => !hasI nx (v : Int) n).length
  | 0 => rfl
  | k + 1 => by
    rw [chN, List.length_append, chN_len nx n k, List.range_succ, List.filter_append, List.length_append]
    cases hb : hasI nx (k : Int) n <;> simp [hb]
theorem ch_outs {nx ly : List Int} {n : Nat} (h : NxI nx ly n) : (chN nx n n).length = ((List.range n).filter fun v => decide (ix nx v < 0)).length := by
  have hperm : (((List.range n).filter fun v => decide (0 ≤ ix nx v)).map fun v => (ix nx v).toNat).Perm ((List.range n).filter fun v : Nat => hasI nx (v : Int) n) := by
    rw [List.perm_ext_iff_of_nodup]
    · intro a
      simp only [List.mem_map, List.mem_filter, List.mem_range, decide_eq_true_eq]
      constructor
      · rintro ⟨v, ⟨hv, h0⟩, rfl⟩
        rcases h.rng v hv with h1 | ⟨u, hu, h1⟩
        · omega
        · rw [h1, Int.toNat_natCast]
          exact ⟨hu, hasI_iff.2 ⟨v, hv, h1⟩⟩
      · rintro ⟨ha, hh⟩
        obtain ⟨v, hv, he⟩ := hasI_iff.1 hh
        exact ⟨v, ⟨hv, by omega⟩, by rw [he, Int.toNat_natCast]⟩
    · refine List.pairwise_map.2 (List.Pairwise.imp_of_mem ?_ (List.nodup_range.sublist List.filter_sublist))
      intro a b ha hb hab e
      simp only [List.mem_filter, List.mem_range, decide_eq_true_eq] at ha hb
      exact hab (h.inj a b ha.1 hb.1 ha.2 (by omega))
    · exact List.nodup_range.sublist List.filter_sublist
  have hl := hperm.length_eq
  rw [List.length_map] at hl
  have hsplit : ∀ (p : Nat → Bool), ((List.range n).filter p).length + ((List.range n).filter fun v => !p v).length = n := by
    intro p
    have h1 := List.filter_append_perm p (List.range n)
    have h2 := h1.length_eq
    rw [List.length_append, List.length_range] at h2
    exact h2
  have h3 := hsplit fun v : Nat => hasI nx (v : Int) n
  have h4 := hsplit fun v => decide (0 ≤ ix nx v)
  have h5 : ((List.range n).filter fun v => !decide (0 ≤ ix nx v)) = (List.range n).filter fun v => decide (ix nx v < 0) := by
    refine List.filter_congr fun v _ => ?_
    by_cases h0 : 0 ≤ ix nx v
    · simp [h0]
    · simp [h0]; omega
  rw [chN_len, ← h5]
  omega
/-- A rising list of nodes. -/
def risB (l : List Int) (n k : Nat) : Bool := allI (fun i => within (ix l i) 0 ((n : Int) - 1) && decide (0 < i → ix l (i - 1) < ix l i)) k
theorem ris_at {l : List Int} {n k : Nat} (h : risB l n k = true) {i : Nat} (hi : i < k) : 0 ≤ ix l i ∧ ix l i < n ∧ (0 < i → ix l (i - 1) < ix l i) := by
  have := allI_iff.1 h i hi
  simp only [Bool.and_eq_true, decide_eq_true_eq] at this
  have h1 := within_iff.1 this.1
  exact ⟨h1.1, by omega, this.2⟩
theorem ris_lt {l : List Int} {n k : Nat} (h : risB l n k = true) : ∀ {i j : Nat}, i < j → j < k → ix l i < ix l j := by
  intro i j hij hj
  induction j with
  | zero => omega
  | succ j ih =>
    have h1 := (ris_at h hj).2.2 (by omega)
    rw [Nat.add_sub_cancel] at h1
    rcases Nat.lt_succ_iff_lt_or_eq.1 hij with h2 | rfl
    · have := ih h2 (by omega); omega
    · exact h1
theorem ris_len {l : List Int} {n k : Nat} (h : risB l n k = true) : ((List.range n).filter fun v : Nat => hasI l (v : Int) k).length = k := by
  have hperm : ((List.range k).map fun i => (ix l i).toNat).Perm ((List.range n).filter fun v : Nat => hasI l (v : Int) k) := by
    rw [List.perm_ext_iff_of_nodup]
    · intro a
      simp only [List.mem_map, List.mem_filter, List.mem_range]
      constructor
      · rintro ⟨i, hi, rfl⟩
        have := ris_at h hi
        exact ⟨by omega, hasI_iff.2 ⟨i, hi, by omega⟩⟩
      · rintro ⟨_, hh⟩
        obtain ⟨i, hi, he⟩ := hasI_iff.1 hh
        exact ⟨i, hi, by rw [he, Int.toNat_natCast]⟩
    · refine List.pairwise_map.2 (List.Pairwise.imp_of_mem ?_ List.pairwise_lt_range)
      intro a b ha hb hab e
      rw [List.mem_range] at ha hb
      have h1 := ris_lt h hab hb
      have h2 := ris_at h ha
      omega
    · exact List.nodup_range.sublist List.filter_sublist
  have := hperm.length_eq
  rw [List.length_map, List.length_range] at this
  omega
theorem ris_le {l : List Int} {n k : Nat} (h : risB l n k = true) : k ≤ n := by
  have h1 := ris_len h
  have h2 := List.length_filter_le (fun v : Nat => hasI l (v : Int) k) (List.range n)
  rw [List.length_range] at h2
  omega
theorem cntU_filter (ly : List Int) : ∀ n, cntU ly n = ((List.range n).filter fun v => decide (ix ly v < 0)).length
  | 0 => rfl
  | n + 1 => by
    rw [cntU, cntU_filter ly n, List.range_succ, List.filter_append, List.length_append]
    by_cases h : ix ly n < 0 <;> simp [h]
theorem cntU_start {os : List Int} {no n : Nat} (h : risB os n no = true) : cntU (ly0 os no n) n + no = n := by
  have h1 := ris_len h
  have h2 := List.filter_append_perm (fun v : Nat => hasI os (v : Int) no) (List.range n)
  have h3 := h2.length_eq
  rw [List.length_append, List.length_range, h1] at h3
  have h4 : ((List.range n).filter fun v => decide (ix (ly0 os no n) v < 0)) = (List.range n).filter fun v : Nat => !hasI os (v : Int) no := by
    refine List.filter_congr fun v hv => ?_
    rw [List.mem_range] at hv
    rw [ly0, ix_mapN hv]
    cases hasI os (v : Int) no <;> simp
  rw [cntU_filter, h4]; omega

end Go.Proofs.Ytoiaibgcjfgbcaa
