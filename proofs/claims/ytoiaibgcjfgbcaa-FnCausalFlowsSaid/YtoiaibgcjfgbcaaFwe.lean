/- Plain laws: a step of the searches for flows, node by node. -/
import Derived.Test.YtoiaibgcjfgbcaaFwd
set_option linter.unusedSimpArgs false
set_option linter.unusedVariables false
namespace Go.Proofs.Ytoiaibgcjfgbcaa
open Go Go.RowKit

theorem set_len0 {a n : Nat} (h : ∀ i, i < n → a.testBit i = false) : setN a n = [] := by
  induction n with
  | zero => rfl
  | succ n ih =>
    rw [setN, filterL, if_neg (by rw [h n (by omega)]; decide), List.append_nil]
    exact ih fun i hi => h i (by omega)
theorem set_one {a : Nat} : ∀ {n : Nat}, (setN a n).length = 1 → ∃ v : Nat, v < n ∧ setN a n = [(v : Int)] ∧ ∀ i, i < n → (a.testBit i = true ↔ i = v)
  | 0, h => by simp [setN, filterL] at h
  | n + 1, h => by
    rw [setN, filterL] at h ⊢
    cases hb : a.testBit n with
    | true =>
      rw [hb, if_pos rfl, List.length_append] at h
      simp only [List.length_cons, List.length_nil] at h
      have h0 : filterL (fun k => a.testBit k) n = [] := List.length_eq_zero_iff.1 (by omega)
      rw [if_pos rfl, h0]
      refine ⟨n, by omega, rfl, fun i hi => ?_⟩
      constructor
      · intro hi2
        refine Decidable.byContradiction fun hne => ?_
        obtain ⟨j, hj, _⟩ := filterL_mem (p := fun k => a.testBit k) (N := n) (v := i) (by omega) hi2
        rw [h0] at hj; simp at hj
      · rintro rfl; exact hb
    | false =>
      rw [hb, if_neg (by decide), List.append_nil] at h
      rw [if_neg (by decide), List.append_nil]
      obtain ⟨v, h1, h2, h3⟩ := set_one (n := n) h
      refine ⟨v, by omega, h2, fun i hi => ?_⟩
      by_cases e : i = n
      · subst e; rw [hb]; constructor
        · intro h; cases h
        · intro h; omega
      · exact h3 i (by omega)
theorem one_bit {a n : Nat} (ha : a < 2 ^ n) (h : (setN a n).length = 1) : ∃ v : Nat, v < n ∧ a = 2 ^ v ∧ setN a n = [(v : Int)] := by
  obtain ⟨v, h1, h2, h3⟩ := set_one h
  refine ⟨v, h1, Nat.eq_of_testBit_eq fun i => ?_, h2⟩
  rw [Nat.testBit_two_pow]
  by_cases hi : i < n
  · rw [Bool.eq_iff_iff, h3 i hi, decide_eq_true_eq]; exact ⟨fun h => h.symm, fun h => h.symm⟩
  · rw [Nat.testBit_lt_two_pow (Nat.lt_of_lt_of_le ha (Nat.pow_le_pow_right (by omega) (by omega))), decide_eq_false (by omega)]
theorem set_pow {v n : Nat} (hv : v < n) : setN (2 ^ v) n = [(v : Int)] := by
  induction n with
  | zero => omega
  | succ n ih =>
    rw [setN, filterL, Nat.testBit_two_pow]
    by_cases e : v = n
    · subst e
      have h0 : setN (2 ^ v) v = [] := set_len0 fun i hi => by rw [Nat.testBit_two_pow]; exact decide_eq_false (by omega)
      rw [if_pos (by simp)]
      show setN (2 ^ v) v ++ [(v : Int)] = _
      rw [h0]; rfl
    · rw [if_neg (by simpa using e), List.append_nil]; exact ih (by omega)
theorem pop_nat {a n : Nat} (ha : a < 2 ^ n) (hn : n ≤ 24) : popE (IntKind.u64.wrap ((a : Nat) : Int)) = (((setN a n).length : Nat) : Int) := by
  have hp : 2 ^ n ≤ 16777216 := Nat.le_trans (Nat.pow_le_pow_right (by omega) hn) (by decide)
  rw [wrap_nat (by omega), popE_set (by omega) (by omega), setL_nat ha hn]
theorem low_len : ∀ v, v < 11 → (setN (2 ^ v - 1) 10).length = min v 10 := by decide +kernel
theorem pop_low {v : Nat} (hv : v < 10) : popE (IntKind.u64.wrap ((2 ^ v - 1 : Nat) : Int)) = (v : Int) := by
  have h1 : 2 ^ v ≤ 2 ^ 10 := Nat.pow_le_pow_right (by omega) (by omega)
  have h2 : 0 < 2 ^ v := Nat.two_pow_pos v
  rw [pop_nat (n := 10) (by omega) (by omega), low_len v (by omega)]; omega
/-- Nodes from t on are done, the greatest first. -/
structure DnI (g : Nat → Nat → Bool) (n t k : Nat) (nx ly A L : List Int) : Prop where
  la : A.length = n
  ll : L.length = n
  at_ : ∀ v, v < n → (∃ u : Nat, t ≤ u ∧ u < n ∧ g u v = true ∧ (∀ w, t ≤ w → w < u → g w v = false) ∧ ix A v = (u : Int) ∧ ix L v = (k : Int)) ∨ ((∀ u, t ≤ u → u < n → g u v = false) ∧ ix A v = ix nx v ∧ ix L v = ix ly v)
theorem DnI.start {g : Nat → Nat → Bool} {n k : Nat} {nx ly : List Int} (h1 : nx.length = n) (h2 : ly.length = n) : DnI g n n k nx ly nx ly := ⟨h1, h2, fun v _ => .inr ⟨fun u h h' => by omega, rfl, rfl⟩⟩
theorem DnI.hit {g : Nat → Nat → Bool} {n u v k : Nat} {nx ly A L : List Int} (h : DnI g n (u + 1) k nx ly A L) (hu : u < n) (hv : v < n) (hg : g u v = true) (ho : ∀ w, w < n → w ≠ v → g u w = false) : DnI g n u k nx ly (A.set v (u : Int)) (L.set v (k : Int)) := by
  refine ⟨by simpa using h.la, by simpa using h.ll, fun w hw => ?_⟩
  rw [ix_lset (by rw [h.la]; exact hv), ix_lset (by rw [h.ll]; exact hv)]
  by_cases e : w = v
  · subst e
    rw [if_pos rfl, if_pos rfl]
    exact .inl ⟨u, Nat.le_refl _, hu, hg, fun x h1 h2 => by omega, rfl, rfl⟩
  · rw [if_neg e, if_neg e]
    rcases h.at_ w hw with ⟨x, h1, h2, h3, h4, h5⟩ | ⟨h1, h2⟩
    · exact .inl ⟨x, by omega, h2, h3, fun y hy hy2 => by
        by_cases e2 : y = u
        · subst e2; exact ho w hw e
        · exact h4 y (by omega) hy2, h5⟩
    · exact .inr ⟨fun y hy hy2 => by
        by_cases e2 : y = u
        · subst e2; exact ho w hw e
        · exact h1 y (by omega) hy2, h2⟩
theorem DnI.miss {g : Nat → Nat → Bool} {n u k : Nat} {nx ly A L : List Int} (h : DnI g n (u + 1) k nx ly A L) (ho : ∀ w, w < n → g u w = false) : DnI g n u k nx ly A L := by
  refine ⟨h.la, h.ll, fun w hw => ?_⟩
  rcases h.at_ w hw with ⟨x, h1, h2, h3, h4, h5⟩ | ⟨h1, h2⟩
  · exact .inl ⟨x, by omega, h2, h3, fun y hy hy2 => by
      by_cases e2 : y = u
      · subst e2; exact ho w hw
      · exact h4 y (by omega) hy2, h5⟩
  · exact .inr ⟨fun y hy hy2 => by
      by_cases e2 : y = u
      · subst e2; exact ho w hw
      · exact h1 y (by omega) hy2, h2⟩
/-- Nodes below t are done, the first one counts. -/
structure UpI (g : Nat → Nat → Bool) (n t k : Nat) (nx ly A L : List Int) : Prop where
  la : A.length = n
  ll : L.length = n
  at_ : ∀ v, v < n → (∃ u : Nat, u < t ∧ g u v = true ∧ (∀ w, w < u → g w v = false) ∧ ix A v = (u : Int) ∧ ix L v = (k : Int)) ∨ ((∀ u, u < t → g u v = false) ∧ ix A v = ix nx v ∧ ix L v = ix ly v)
theorem UpI.start {g : Nat → Nat → Bool} {n k : Nat} {nx ly : List Int} (h1 : nx.length = n) (h2 : ly.length = n) : UpI g n 0 k nx ly nx ly := ⟨h1, h2, fun v _ => .inr ⟨fun u h => by omega, rfl, rfl⟩⟩
theorem UpI.hit {g : Nat → Nat → Bool} {n u v k : Nat} {nx ly A L : List Int} (h : UpI g n u k nx ly A L) (hv : v < n) (hL : ix L v < 0) (hg : g u v = true) (ho : ∀ w, w < n → w ≠ v → g u w = false) : UpI g n (u + 1) k nx ly (A.set v (u : Int)) (L.set v (k : Int)) := by
  refine ⟨by simpa using h.la, by simpa using h.ll, fun w hw => ?_⟩
  rw [ix_lset (by rw [h.la]; exact hv), ix_lset (by rw [h.ll]; exact hv)]
  by_cases e : w = v
  · subst e
    rw [if_pos rfl, if_pos rfl]
    rcases h.at_ w hw with ⟨x, _, _, _, _, h5⟩ | ⟨h1, _⟩
    · omega
    · exact .inl ⟨u, by omega, hg, h1, rfl, rfl⟩
  · rw [if_neg e, if_neg e]
    rcases h.at_ w hw with ⟨x, h1, h3, h4, h5⟩ | ⟨h1, h2⟩
    · exact .inl ⟨x, by omega, h3, h4, h5⟩
    · exact .inr ⟨fun y hy => by
        by_cases e2 : y = u
        · subst e2; exact ho w hw e
        · exact h1 y (by omega), h2⟩
theorem UpI.miss {g : Nat → Nat → Bool} {n u k : Nat} {nx ly A L : List Int} (h : UpI g n u k nx ly A L) (ho : ∀ w, w < n → g u w = true → 0 ≤ ix L w ∧ ix ly w < 0) : UpI g n (u + 1) k nx ly A L := by
  refine ⟨h.la, h.ll, fun w hw => ?_⟩
  rcases h.at_ w hw with ⟨x, h1, h3, h4, h5⟩ | ⟨h1, h2⟩
  · exact .inl ⟨x, by omega, h3, h4, h5⟩
  · refine .inr ⟨fun y hy => ?_, h2⟩
    by_cases e2 : y = u
    · subst e2
      cases hg : g y w with
      | false => rfl
      | true => have := ho w hw hg; omega
    · exact h1 y (by omega)
theorem cf_fin {es : List Int} {m n : Nat} {is : List Int} {ni : Nat} {os : List Int} {no k : Nat} {nx ly A L : List Int} (hf : FlI es m n is ni os no k nx ly) (hes : edgesOk (n : Int) es m = true) (hA : A.length = n) (hL : L.length = n)
    (h : ∀ v, v < n → (∃ u : Nat, u < n ∧ gdB es m n is ni nx ly u v = true ∧ (∀ w, w < u → gdB es m n is ni nx ly w v = false) ∧ ix A v = (u : Int) ∧ ix L v = (k : Int)) ∨ ((∀ u, u < n → gdB es m n is ni nx ly u v = false) ∧ ix A v = ix nx v ∧ ix L v = ix ly v)) :
    A = (cfS es m n is ni k (nx, ly)).1 ∧ L = (cfS es m n is ni k (nx, ly)).2 := by
  have hgu : ∀ u v, u < n → v < n → gdB es m n is ni nx ly u v = true → (unl ly n).testBit v = true := by
    intro u v hu hv hg
    have := (gd_iff hes hu).1 hg
    have h2 := (this.1.2.2.2 v hv).2 rfl
    rw [unl_bit]; simp [hv, h2.2]
  have key : ∀ v, v < n → ix A v = nxZ es m n is ni nx ly v ∧ ix L v = lyV es m n is ni k nx ly v := by
    intro v hv
    rcases h v hv with ⟨u, h1, h2, h3, h4, h5⟩ | ⟨h1, h2, h3⟩
    · have hb := hgu u v h1 hv h2
      have hfi : findI (fun u => gdB es m n is ni nx ly u v) n = (u : Int) := findI_hit h3 h2 h1
      rw [nxZ, lyV, hb, hfi, if_pos rfl, if_pos ⟨rfl, by omega⟩]
      exact ⟨h4, h5⟩
    · have hfi : findI (fun u => gdB es m n is ni nx ly u v) n = -1 := findI_none h1
      rw [nxZ, lyV, hfi]
      refine ⟨?_, by rw [if_neg (by omega)]; exact h3⟩
      by_cases hb : (unl ly n).testBit v = true
      · rw [if_pos hb, h2]
        rw [unl_bit] at hb
        simp only [Bool.and_eq_true, decide_eq_true_eq] at hb
        exact hf.nxo v hv (by omega)
      · rw [if_neg hb]; exact h2
  exact ⟨eq_mapN hA fun v hv => (key v hv).1, eq_mapN hL fun v hv => (key v hv).2⟩
theorem DnI.fin {es : List Int} {m n : Nat} {is : List Int} {ni : Nat} {os : List Int} {no k : Nat} {nx ly A L : List Int} (hf : FlI es m n is ni os no k nx ly) (hes : edgesOk (n : Int) es m = true) (h : DnI (gdB es m n is ni nx ly) n 0 k nx ly A L) : A = (cfS es m n is ni k (nx, ly)).1 ∧ L = (cfS es m n is ni k (nx, ly)).2 :=
  cf_fin hf hes h.la h.ll fun v hv => by
    rcases h.at_ v hv with ⟨u, _, h2, h3, h4, h5⟩ | ⟨h1, h2⟩
    · exact .inl ⟨u, h2, h3, fun w hw => h4 w (Nat.zero_le _) hw, h5⟩
    · exact .inr ⟨fun u hu => h1 u (Nat.zero_le _) hu, h2⟩
theorem UpI.fin {es : List Int} {m n : Nat} {is : List Int} {ni : Nat} {os : List Int} {no k : Nat} {nx ly A L : List Int} (hf : FlI es m n is ni os no k nx ly) (hes : edgesOk (n : Int) es m = true) (h : UpI (gdB es m n is ni nx ly) n n k nx ly A L) : A = (cfS es m n is ni k (nx, ly)).1 ∧ L = (cfS es m n is ni k (nx, ly)).2 :=
  cf_fin hf hes h.la h.ll h.at_
/-- What the search for a causal flow yields. -/
def cfO (es : List Int) (m n : Nat) (is : List Int) (ni : Nat) (os : List Int) (no : Nat) : Option (List Int × List Int) := if ogB n es m is ni os no = true then cfR es m n is ni (n + 1) 1 (List.replicate n (-1), ly0 os no n) else none
def cfA (es : List Int) (m n : Nat) (is : List Int) (ni : Nat) (os : List Int) (no : Nat) : List Int := ((cfO es m n is ni os no).map (·.1)).getD []
def cfL (es : List Int) (m n : Nat) (is : List Int) (ni : Nat) (os : List Int) (no : Nat) : List Int := ((cfO es m n is ni os no).map (·.2)).getD []
/-- Where the search stands: fuel f, the number k of the next layer. -/
structure CfI (es : List Int) (m n : Nat) (is : List Int) (ni : Nat) (os : List Int) (no f k : Nat) (nx ly : List Int) : Prop where
  run : cfR es m n is ni f k (nx, ly) = cfO es m n is ni os no
  fl : FlI es m n is ni os no k nx ly
  cnt : cntU ly n < f
  k1 : 1 ≤ k
  kf : k + f ≤ n + 2
theorem CfI.start {es : List Int} {m n : Nat} {is : List Int} {ni : Nat} {os : List Int} {no : Nat} (hg : ogB n es m is ni os no = true) : CfI es m n is ni os no (n + 1) 1 (List.replicate n (-1)) (ly0 os no n) := by
  refine ⟨by rw [cfO, if_pos hg], fl_start, ?_, Nat.le_refl _, by omega⟩
  have := cntU_le_n (ly0 os no n) n
  omega
theorem CfI.stop {es : List Int} {m n : Nat} {is : List Int} {ni : Nat} {os : List Int} {no f k : Nat} {nx ly : List Int} (h : CfI es m n is ni os no (f + 1) k nx ly) (h0 : unl ly n = 0) : cfO es m n is ni os no = some (nx, ly) := by
  rw [← h.run, cfR, if_pos h0]
theorem CfI.none {es : List Int} {m n : Nat} {is : List Int} {ni : Nat} {os : List Int} {no f k : Nat} {nx ly : List Int} (h : CfI es m n is ni os no (f + 1) k nx ly) (h0 : unl ly n ≠ 0) (h1 : unl (cfS es m n is ni k (nx, ly)).2 n = unl ly n) : cfO es m n is ni os no = .none := by
  rw [← h.run, cfR, if_neg h0, if_pos h1]
theorem CfI.next {es : List Int} {m n : Nat} {is : List Int} {ni : Nat} {os : List Int} {no f k : Nat} {nx ly : List Int} (hes : edgesOk (n : Int) es m = true) (h : CfI es m n is ni os no (f + 1) k nx ly) (h0 : unl ly n ≠ 0) (h1 : unl (cfS es m n is ni k (nx, ly)).2 n ≠ unl ly n) : CfI es m n is ni os no f (k + 1) (cfS es m n is ni k (nx, ly)).1 (cfS es m n is ni k (nx, ly)).2 := by
  obtain ⟨h2, h3⟩ := h.fl.step hes h.k1
  have hlt : cntU (cfS es m n is ni k (nx, ly)).2 n < cntU ly n := by
    refine cntU_lt h3 ?_
    refine Decidable.byContradiction fun hn => h1 (unl_congr.2 fun v hv => ⟨h3 v hv, fun hv0 => ?_⟩)
    refine Decidable.byContradiction fun hp => hn ⟨v, hv, hv0, by omega⟩
  have h4 := h.cnt
  have h5 := h.kf
  refine ⟨?_, h2, by omega, by omega, by omega⟩
  rw [← h.run]
  conv => rhs; rw [cfR, if_neg h0, if_neg h1]
theorem cf_some {es : List Int} {m n : Nat} {is : List Int} {ni : Nat} {os : List Int} {no : Nat} {nx ly : List Int} (h : cfO es m n is ni os no = some (nx, ly)) : cfA es m n is ni os no = nx ∧ cfL es m n is ni os no = ly ∧ (cfO es m n is ni os no).isSome = true := by simp [cfA, cfL, h]
theorem cf_none {es : List Int} {m n : Nat} {is : List Int} {ni : Nat} {os : List Int} {no : Nat} (h : cfO es m n is ni os no = none) : cfA es m n is ni os no = [] ∧ cfL es m n is ni os no = [] ∧ (cfO es m n is ni os no).isSome = false := by simp [cfA, cfL, h]
theorem cf_bad {es : List Int} {m n : Nat} {is : List Int} {ni : Nat} {os : List Int} {no : Nat} (h : ogB n es m is ni os no = false) : cfO es m n is ni os no = none := by rw [cfO, if_neg (by rw [h]; decide)]
/-- u serves v, or nobody. -/
theorem gd_hit {es : List Int} {m n : Nat} {is : List Int} {ni : Nat} {nx ly : List Int} {u v : Nat} (h1 : (unl ly n).testBit u = false) (h2 : hasI is u ni = false) (h3 : hasI nx u n = false) (h4 : ngK es u m &&& unl ly n = 2 ^ v) : gdB es m n is ni nx ly u v = true ∧ ∀ w, w ≠ v → gdB es m n is ni nx ly u w = false := by
  constructor
  · simp [gdB, h1, h2, h3, h4]
  · intro w hw
    simp only [gdB, h1, h2, h3, h4, Bool.not_false, Bool.true_and]
    exact decide_eq_false fun e => hw ((Nat.pow_right_inj (by omega)).1 e).symm
theorem gd_miss {es : List Int} {m n : Nat} {is : List Int} {ni : Nat} {nx ly : List Int} {u : Nat} (h : (unl ly n).testBit u = true ∨ hasI is u ni = true ∨ hasI nx u n = true ∨ (setN (ngK es u m &&& unl ly n) n).length ≠ 1) : ∀ w, w < n → gdB es m n is ni nx ly u w = false := by
  intro w hw
  cases hg : gdB es m n is ni nx ly u w with
  | false => rfl
  | true =>
    simp only [gdB, Bool.and_eq_true, Bool.not_eq_true', decide_eq_true_eq] at hg
    rcases h with h | h | h | h
    · rw [h] at hg; simp at hg
    · rw [h] at hg; simp at hg
    · rw [h] at hg; simp at hg
    · rw [hg.2, set_pow hw] at h; exact absurd rfl h
theorem unl_neg {ly : List Int} {n u : Nat} (hu : u < n) : (unl ly n).testBit u = decide (ix ly u < 0) := by rw [unl_bit, decide_eq_true hu, Bool.true_and]

end Go.Proofs.Ytoiaibgcjfgbcaa
