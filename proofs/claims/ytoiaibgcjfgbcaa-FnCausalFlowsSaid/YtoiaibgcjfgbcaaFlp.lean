/- Plain laws: causal flows and generalised flows. -/
import Derived.Test.YtoiaibgcjfgbcaaCg3
set_option linter.unusedSimpArgs false
set_option linter.unusedVariables false
namespace Go.Proofs.Ytoiaibgcjfgbcaa
open Go Go.RowKit

theorem findI_sat' {p : Nat → Bool} : ∀ {n : Nat}, 0 ≤ findI p n → (findI p n).toNat < n ∧ p (findI p n).toNat = true := by
  intro n h
  obtain ⟨i, hi, hp⟩ := anyI_iff.1 (findI_nonneg.1 h)
  have key : ∀ k, (∃ i, i < k ∧ i < n ∧ p i = true) → ∃ i, i < n ∧ p i = true ∧ ∀ j, j < i → p j = false := by
    intro k
    induction k with
    | zero => rintro ⟨i, hi, _⟩; omega
    | succ k ihk =>
      rintro ⟨i, hi, hin, hg⟩
      by_cases h2 : ∃ i, i < k ∧ i < n ∧ p i = true
      · exact ihk h2
      · refine ⟨i, hin, hg, fun j hj => ?_⟩
        cases hgj : p j with
        | false => rfl
        | true => exact absurd ⟨j, by omega, by omega, hgj⟩ h2
  obtain ⟨j, h1, h2, h3⟩ := key (i + 1) ⟨i, by omega, hi, hp⟩
  rw [findI_hit h3 h2 h1, Int.toNat_natCast]
  exact ⟨h1, h2⟩
theorem or_bit {a k i : Nat} : (a ||| 2 ^ k).testBit i = (a.testBit i || decide (k = i)) := by rw [Nat.testBit_or, Nat.testBit_two_pow]
theorem or_pow_lt {a k n : Nat} (h : a < 2 ^ n) (hk : k < n) : a ||| 2 ^ k < 2 ^ n := Nat.or_lt_two_pow h (Nat.pow_lt_pow_right (by omega) hk)
/-- Nodes u and v are joined by one of the first k edges. -/
def jn (es : List Int) (u v : Nat) : Nat → Bool
  | 0 => false
  | k + 1 => jn es u v k || ((decide (ix es (k * 2) = (u : Int)) && decide (ix es (k * 2 + 1) = (v : Int))) || (decide (ix es (k * 2) = (v : Int)) && decide (ix es (k * 2 + 1) = (u : Int))))
theorem jn_comm (es : List Int) (u v : Nat) : ∀ k, jn es u v k = jn es v u k
  | 0 => rfl
  | k + 1 => by rw [jn, jn, jn_comm es u v k, Bool.or_comm (decide (ix es (k * 2) = (u : Int)) && decide (ix es (k * 2 + 1) = (v : Int)))]
/-- The neighbours of v over the first k edges, as a set. -/
def ngK (es : List Int) (v : Nat) : Nat → Nat
  | 0 => 0
  | k + 1 => if ix es (k * 2) = (v : Int) then ngK es v k ||| 2 ^ (ix es (k * 2 + 1)).toNat else if ix es (k * 2 + 1) = (v : Int) then ngK es v k ||| 2 ^ (ix es (k * 2)).toNat else ngK es v k
theorem edge_at {N : Int} {es : List Int} {m k : Nat} (h : edgesOk N es m = true) (hk : k < m) : 0 ≤ ix es (k * 2) ∧ ix es (k * 2) < ix es (k * 2 + 1) ∧ ix es (k * 2 + 1) < N := by
  have := of_decide_eq_true h k hk
  simp only [edgeOk] at this
  exact ⟨this.1, this.2.1, this.2.2.1⟩
theorem ng_bit {N : Int} {es : List Int} {m : Nat} (h : edgesOk N es m = true) (u v : Nat) : ∀ k, k ≤ m → (ngK es v k).testBit u = jn es u v k
  | 0, _ => by simp [ngK, jn]
  | k + 1, hk => by
    have he := edge_at h (show k < m by omega)
    have ih := ng_bit h u v k (by omega)
    rw [ngK, jn]
    split
    · rename_i h1
      rw [or_bit, ih]
      congr 1
      by_cases e : ix es (k * 2 + 1) = (u : Int)
      · rw [decide_eq_true (show (ix es (k * 2 + 1)).toNat = u by omega), decide_eq_true h1, decide_eq_true e]; simp
      · rw [decide_eq_false (show ¬ (ix es (k * 2 + 1)).toNat = u by omega), decide_eq_false e, decide_eq_false (show ¬ ix es (k * 2 + 1) = (v : Int) by omega)]; simp
    · rename_i h1
      split
      · rename_i h2
        rw [or_bit, ih]
        congr 1
        by_cases e : ix es (k * 2) = (u : Int)
        · rw [decide_eq_true (show (ix es (k * 2)).toNat = u by omega), decide_eq_true h2, decide_eq_true e]; simp
        · rw [decide_eq_false (show ¬ (ix es (k * 2)).toNat = u by omega), decide_eq_false e, decide_eq_false h1]; simp
      · rename_i h2
        rw [ih, decide_eq_false h1, decide_eq_false h2]; simp
theorem ng_lt {es : List Int} {n m : Nat} (h : edgesOk (n : Int) es m = true) (v : Nat) : ∀ k, k ≤ m → ngK es v k < 2 ^ n
  | 0, _ => Nat.two_pow_pos n
  | k + 1, hk => by
    have he := edge_at h (show k < m by omega)
    have ih := ng_lt h v k (by omega)
    rw [ngK]
    split
    · exact or_pow_lt ih (by omega)
    · split
      · exact or_pow_lt ih (by omega)
      · exact ih
theorem jn_irr {N : Int} {es : List Int} {m : Nat} (h : edgesOk N es m = true) (v : Nat) : ∀ k, k ≤ m → jn es v v k = false
  | 0, _ => rfl
  | k + 1, hk => by
    have he := edge_at h (show k < m by omega)
    rw [jn, jn_irr h v k (by omega)]
    by_cases e : ix es (k * 2) = (v : Int)
    · rw [decide_eq_false (show ¬ ix es (k * 2 + 1) = (v : Int) by omega)]; simp
    · rw [decide_eq_false e]; simp
theorem jn_lt {es : List Int} {n m : Nat} (h : edgesOk (n : Int) es m = true) {u v : Nat} : ∀ {k}, k ≤ m → jn es u v k = true → u < n ∧ v < n
  | 0, _, h1 => by cases h1
  | k + 1, hk, h1 => by
    have he := edge_at h (show k < m by omega)
    rw [jn] at h1
    simp only [Bool.or_eq_true, Bool.and_eq_true, decide_eq_true_eq] at h1
    rcases h1 with h1 | ⟨h1, h2⟩ | ⟨h1, h2⟩
    · exact jn_lt h (by omega) h1
    · omega
    · omega
/-- A list as a set. -/
def mskK (l : List Int) : Nat → Nat
  | 0 => 0
  | k + 1 => mskK l k ||| 2 ^ (ix l k).toNat
theorem hasI_succ (l : List Int) (x : Int) (k : Nat) : hasI l x (k + 1) = (hasI l x k || decide (ix l k = x)) := rfl
theorem mskK_bit {l : List Int} {k : Nat} (h : ∀ i, i < k → 0 ≤ ix l i) (u : Nat) : (mskK l k).testBit u = hasI l u k := by
  induction k with
  | zero => simp [mskK, hasI, anyI]
  | succ k ih =>
    rw [mskK, or_bit, ih fun i hi => h i (by omega), hasI_succ]
    congr 1
    have := h k (by omega)
    rw [decide_eq_decide]; omega
theorem mskK_lt {l : List Int} {n k : Nat} (h : ∀ i, i < k → 0 ≤ ix l i ∧ ix l i < n) : mskK l k < 2 ^ n := by
  induction k with
  | zero => exact Nat.two_pow_pos n
  | succ k ih =>
    rw [mskK]
    have := h k (by omega)
    exact or_pow_lt (ih fun i hi => h i (by omega)) (by omega)
/-- The nodes without a layer. -/
def unl (ly : List Int) : Nat → Nat
  | 0 => 0
  | v + 1 => if ix ly v < 0 then unl ly v ||| 2 ^ v else unl ly v
theorem unl_bit (ly : List Int) (u : Nat) : ∀ k, (unl ly k).testBit u = (decide (u < k) && decide (ix ly u < 0))
  | 0 => by simp [unl]
  | k + 1 => by
    have ih := unl_bit ly u k
    rw [unl]
    split
    · rename_i h
      rw [or_bit, ih]
      by_cases e : k = u
      · subst e; simp [h]
      · have : (u < k + 1) ↔ (u < k) := by omega
        rw [decide_eq_false e, Bool.or_false]; simp only [this]
    · rename_i h
      rw [ih]
      by_cases e : k = u
      · subst e; simp [h]
      · have : (u < k + 1) ↔ (u < k) := by omega
        simp only [this]
theorem unl_lt (ly : List Int) : ∀ k, unl ly k < 2 ^ k
  | 0 => by simp [unl]
  | k + 1 => by
    have ih := unl_lt ly k
    have h2 : 2 ^ k < 2 ^ (k + 1) := Nat.pow_lt_pow_right (by omega) (by omega)
    rw [unl]
    split
    · exact or_pow_lt (by omega) (by omega)
    · omega
theorem unl_congr {ly ly' : List Int} {n : Nat} : unl ly n = unl ly' n ↔ ∀ v, v < n → (ix ly v < 0 ↔ ix ly' v < 0) := by
  constructor
  · intro h v hv
    have := congrArg (fun x => x.testBit v) h
    simp only [unl_bit, hv, decide_true, Bool.true_and, decide_eq_decide] at this
    exact this
  · intro h
    refine Nat.eq_of_testBit_eq fun u => ?_
    rw [unl_bit, unl_bit]
    by_cases hu : u < n
    · simp [hu, h u hu]
    · simp [hu]
theorem unl_zero {ly : List Int} {n : Nat} : unl ly n = 0 ↔ ∀ v, v < n → 0 ≤ ix ly v := by
  constructor
  · intro h v hv
    have := congrArg (fun x => x.testBit v) h
    simp only [unl_bit, hv, decide_true, Bool.true_and, Nat.zero_testBit, decide_eq_false_iff_not] at this
    omega
  · intro h
    refine Nat.eq_of_testBit_eq fun u => ?_
    rw [unl_bit, Nat.zero_testBit]
    by_cases hu : u < n
    · simp [hu]; exact h u hu
    · simp [hu]
/-- How many have no layer. -/
def cntU (ly : List Int) : Nat → Nat
  | 0 => 0
  | v + 1 => cntU ly v + if ix ly v < 0 then 1 else 0
theorem cntU_le {ly ly' : List Int} : ∀ {n : Nat}, (∀ v, v < n → ix ly' v < 0 → ix ly v < 0) → cntU ly' n ≤ cntU ly n
  | 0, _ => Nat.le_refl _
  | n + 1, h => by
    have ih := cntU_le (n := n) fun v hv => h v (by omega)
    have h1 := h n (by omega)
    simp only [cntU]
    split <;> split <;> omega
theorem cntU_lt {ly ly' : List Int} : ∀ {n : Nat}, (∀ v, v < n → ix ly' v < 0 → ix ly v < 0) → (∃ v, v < n ∧ ix ly v < 0 ∧ 0 ≤ ix ly' v) → cntU ly' n < cntU ly n
  | 0, _, ⟨v, hv, _⟩ => by omega
  | n + 1, h, ⟨v, hv, h1, h2⟩ => by
    have hle := cntU_le (n := n) fun v hv => h v (by omega)
    simp only [cntU]
    by_cases e : v = n
    · subst e
      rw [if_pos h1, if_neg (by omega)]; omega
    · have ih := cntU_lt (n := n) (fun v hv => h v (by omega)) ⟨v, by omega, h1, h2⟩
      have h3 := h n (by omega)
      split <;> split <;> omega
theorem cntU_le_n (ly : List Int) : ∀ n, cntU ly n ≤ n
  | 0 => Nat.le_refl _
  | n + 1 => by
    have := cntU_le_n ly n
    simp only [cntU]; split <;> omega
/-- v is before all of a set. -/
def befB (ly : List Int) (v set n : Nat) : Bool := allI (fun u => !(set.testBit u && decide (ix ly v ≤ ix ly u))) n
theorem bef_iff {ly : List Int} {v set n : Nat} : befB ly v set n = true ↔ ∀ u, u < n → set.testBit u = true → ix ly u < ix ly v := by
  unfold befB
  rw [allI_iff]
  constructor
  · intro h u hu hb
    have := h u hu
    rw [hb] at this
    simp only [Bool.true_and, Bool.not_eq_true', decide_eq_false_iff_not] at this
    omega
  · intro h u hu
    cases hb : set.testBit u with
    | false => rfl
    | true =>
      have := h u hu hb
      simp only [Bool.true_and, Bool.not_eq_true', decide_eq_false_iff_not]
      omega
def clr (a v : Nat) : Nat := a ^^^ (a &&& 2 ^ v)
theorem clr_bit (a v u : Nat) : (clr a v).testBit u = (a.testBit u && !decide (v = u)) := by
  unfold clr
  rw [Nat.testBit_xor, Nat.testBit_and, Nat.testBit_two_pow]
  cases a.testBit u <;> cases decide (v = u) <;> rfl
/-- The layers are in range. -/
def layB (ly : List Int) (nl n : Nat) : Bool := decide (nl = n) && allI (fun i => within (ix ly i) 0 100) nl
def flAt (es : List Int) (m n : Nat) (is : List Int) (ni : Nat) (os : List Int) (no : Nat) (nx ly : List Int) (v : Nat) : Bool :=
  if hasI os v no = true then decide (ix nx v = -1) else
    within (ix nx v) 0 ((n : Int) - 1) && (!hasI is (ix nx v) ni) && (ngK es v m).testBit (ix nx v).toNat && befB ly v (2 ^ (ix nx v).toNat) n && befB ly v (clr (ngK es (ix nx v).toNat m) v) n
/-- A causal flow. -/
def flB (es : List Int) (m n : Nat) (is : List Int) (ni : Nat) (os : List Int) (no : Nat) (nx : List Int) (nn : Nat) (ly : List Int) (nl : Nat) : Bool :=
  (decide (nn = n) && layB ly nl n) && allI (flAt es m n is ni os no nx ly) nn
/-- u may follow v. -/
def gdB (es : List Int) (m n : Nat) (is : List Int) (ni : Nat) (nx ly : List Int) (u v : Nat) : Bool :=
  !(unl ly n).testBit u && !hasI is u ni && !hasI nx u n && decide (ngK es u m &&& unl ly n = 2 ^ v)
def nxZ (es : List Int) (m n : Nat) (is : List Int) (ni : Nat) (nx ly : List Int) (v : Nat) : Int := if (unl ly n).testBit v then findI (fun u => gdB es m n is ni nx ly u v) n else ix nx v
def lyV (es : List Int) (m n : Nat) (is : List Int) (ni : Nat) (k : Nat) (nx ly : List Int) (v : Nat) : Int := if (unl ly n).testBit v = true ∧ 0 ≤ findI (fun u => gdB es m n is ni nx ly u v) n then (k : Int) else ix ly v
def mapN (f : Nat → Int) (n : Nat) : List Int := (List.range n).map f
theorem ix_mapN {f : Nat → Int} {n v : Nat} (h : v < n) : ix (mapN f n) v = f v := by simp [ix, mapN, List.getD, h]
@[simp] theorem mapN_length (f : Nat → Int) (n : Nat) : (mapN f n).length = n := by simp [mapN]
/-- One step of the search for a causal flow. -/
def cfS (es : List Int) (m n : Nat) (is : List Int) (ni k : Nat) (s : List Int × List Int) : List Int × List Int := (mapN (nxZ es m n is ni s.1 s.2) n, mapN (lyV es m n is ni k s.1 s.2) n)
def cfR (es : List Int) (m n : Nat) (is : List Int) (ni : Nat) : Nat → Nat → List Int × List Int → Option (List Int × List Int)
  | 0, _, _ => none
  | f + 1, k, s => if unl s.2 n = 0 then some s else if unl (cfS es m n is ni k s).2 n = unl s.2 n then none else cfR es m n is ni f (k + 1) (cfS es m n is ni k s)
structure FlI (es : List Int) (m n : Nat) (is : List Int) (ni : Nat) (os : List Int) (no : Nat) (k : Nat) (nx ly : List Int) : Prop where
  ln : nx.length = n
  ll : ly.length = n
  dom : ∀ v, v < n → ix ly v = -1 ∨ (0 ≤ ix ly v ∧ ix ly v < k)
  out : ∀ v, v < n → (hasI os v no = true ↔ ix ly v = 0)
  nxo : ∀ v, v < n → ix ly v ≤ 0 → ix nx v = -1
  nxs : ∀ v, v < n → 1 ≤ ix ly v → ∃ u : Nat, u < n ∧ ix nx v = (u : Int) ∧ hasI is u ni = false ∧ jn es u v m = true ∧ (0 ≤ ix ly u ∧ ix ly u < ix ly v) ∧ ∀ w, w < n → jn es w u m = true → w ≠ v → 0 ≤ ix ly w ∧ ix ly w < ix ly v
  inj : ∀ v w, v < n → w < n → 0 ≤ ix nx v → ix nx v = ix nx w → v = w
theorem gd_iff {es : List Int} {m n : Nat} (hes : edgesOk (n : Int) es m = true) {is : List Int} {ni : Nat} {nx ly : List Int} {u v : Nat} (hu : u < n) : gdB es m n is ni nx ly u v = true ↔ (0 ≤ ix ly u ∧ hasI is u ni = false ∧ hasI nx u n = false ∧ ∀ w, w < n → ((jn es w u m = true ∧ ix ly w < 0) ↔ w = v)) ∧ (v < n ∨ n ≤ v ∧ False) := by
  unfold gdB
  simp only [Bool.and_eq_true, Bool.not_eq_true', decide_eq_true_eq]
  rw [unl_bit]
  simp only [hu, decide_true, Bool.true_and, decide_eq_false_iff_not]
  constructor
  · rintro ⟨⟨⟨h1, h2⟩, h3⟩, h4⟩
    have hb : ∀ w, (jn es w u m = true ∧ (w < n ∧ ix ly w < 0)) ↔ v = w := by
      intro w
      have := congrArg (fun x => x.testBit w) h4
      simp only [Nat.testBit_and, ng_bit hes w u m (Nat.le_refl _), unl_bit, Nat.testBit_two_pow] at this
      rw [Bool.eq_iff_iff] at this
      simpa [Bool.and_eq_true] using this
    have hvn : v < n := ((hb v).2 rfl).2.1
    refine ⟨⟨by omega, h2, h3, fun w hw => ?_⟩, .inl hvn⟩
    have := hb w
    constructor
    · rintro ⟨a, b⟩; exact (this.1 ⟨a, hw, b⟩).symm
    · rintro rfl
      obtain ⟨a, _, b⟩ := this.2 rfl
      exact ⟨a, b⟩
  · rintro ⟨⟨h1, h2, h3, h4⟩, h5⟩
    have hvn : v < n := by rcases h5 with h | ⟨_, h⟩; exact h; exact h.elim
    refine ⟨⟨⟨by omega, h2⟩, h3⟩, ?_⟩
    refine Nat.eq_of_testBit_eq fun w => ?_
    rw [Nat.testBit_and, ng_bit hes w u m (Nat.le_refl _), unl_bit, Nat.testBit_two_pow, Bool.eq_iff_iff]
    simp only [Bool.and_eq_true, decide_eq_true_eq]
    constructor
    · rintro ⟨a, b, c⟩; exact ((h4 w b).1 ⟨a, c⟩).symm
    · rintro rfl
      obtain ⟨a, b⟩ := (h4 v hvn).2 rfl
      exact ⟨a, hvn, b⟩
theorem hasI_iff {l : List Int} {x : Int} {n : Nat} : hasI l x n = true ↔ ∃ i, i < n ∧ ix l i = x := by
  unfold hasI; rw [anyI_iff]; simp
theorem hasI_no {l : List Int} {x : Int} {n : Nat} : hasI l x n = false ↔ ∀ i, i < n → ix l i ≠ x := by
  rw [← Bool.not_eq_true, hasI_iff]
  constructor
  · intro h i hi e; exact h ⟨i, hi, e⟩
  · rintro h ⟨i, hi, e⟩; exact h i hi e
/-- A step keeps the state right. -/
theorem FlI.step {es : List Int} {m n : Nat} {is : List Int} {ni : Nat} {os : List Int} {no k : Nat} {nx ly : List Int} (hes : edgesOk (n : Int) es m = true) (hk : 1 ≤ k) (h : FlI es m n is ni os no k nx ly) :
    FlI es m n is ni os no (k + 1) (cfS es m n is ni k (nx, ly)).1 (cfS es m n is ni k (nx, ly)).2 ∧ (∀ v, v < n → ix (cfS es m n is ni k (nx, ly)).2 v < 0 → ix ly v < 0) := by
  have hnx : ∀ v, v < n → ix (cfS es m n is ni k (nx, ly)).1 v = nxZ es m n is ni nx ly v := fun v hv => ix_mapN hv
  have hly : ∀ v, v < n → ix (cfS es m n is ni k (nx, ly)).2 v = lyV es m n is ni k nx ly v := fun v hv => ix_mapN hv
  have hold : ∀ v, v < n → 0 ≤ ix ly v → nxZ es m n is ni nx ly v = ix nx v ∧ lyV es m n is ni k nx ly v = ix ly v := by
    intro v hv h0
    have hb : (unl ly n).testBit v = false := by rw [unl_bit]; simp; omega
    exact ⟨by rw [nxZ, hb]; rfl, by rw [lyV, hb]; simp⟩
  have hnew : ∀ v, v < n → ix ly v < 0 → (lyV es m n is ni k nx ly v = -1 ∧ nxZ es m n is ni nx ly v = -1) ∨ ∃ u : Nat, u < n ∧ nxZ es m n is ni nx ly v = (u : Int) ∧ lyV es m n is ni k nx ly v = (k : Int) ∧ gdB es m n is ni nx ly u v = true := by
    intro v hv h0
    have hb : (unl ly n).testBit v = true := by rw [unl_bit]; simp [hv, h0]
    have hd : ix ly v = -1 := by rcases h.dom v hv with h1 | h1 <;> omega
    by_cases hf : 0 ≤ findI (fun u => gdB es m n is ni nx ly u v) n
    · obtain ⟨h1, h2⟩ := findI_sat' hf
      exact .inr ⟨_, h1, by rw [nxZ, hb, if_pos rfl]; omega, by rw [lyV, if_pos ⟨hb, hf⟩], h2⟩
    · left
      refine ⟨by rw [lyV, if_neg fun hc => hf hc.2]; exact hd, ?_⟩
      rw [nxZ, hb, if_pos rfl]
      refine findI_none fun i hi => ?_
      cases hg : gdB es m n is ni nx ly i v with
      | false => rfl
      | true => exact absurd (findI_nonneg.2 (anyI_true hi hg)) hf
  refine ⟨⟨mapN_length _ _, mapN_length _ _, ?_, ?_, ?_, ?_, ?_⟩, ?_⟩
  · intro v hv
    rw [hly v hv]
    by_cases h0 : ix ly v < 0
    · rcases hnew v hv h0 with ⟨h1, _⟩ | ⟨u, _, _, h1, _⟩ <;> rw [h1] <;> omega
    · rw [(hold v hv (by omega)).2]
      rcases h.dom v hv with h1 | h1 <;> omega
  · intro v hv
    rw [hly v hv, h.out v hv]
    by_cases h0 : ix ly v < 0
    · rcases hnew v hv h0 with ⟨h1, _⟩ | ⟨u, _, _, h1, _⟩ <;> rw [h1] <;> omega
    · rw [(hold v hv (by omega)).2]
  · intro v hv
    rw [hly v hv, hnx v hv]
    by_cases h0 : ix ly v < 0
    · rcases hnew v hv h0 with ⟨h1, h2⟩ | ⟨u, _, _, h1, _⟩
      · intro _; exact h2
      · rw [h1]; intro; omega
    · rw [(hold v hv (by omega)).2, (hold v hv (by omega)).1]; exact h.nxo v hv
  · intro v hv
    rw [hly v hv, hnx v hv]
    by_cases h0 : ix ly v < 0
    · rcases hnew v hv h0 with ⟨h1, h2⟩ | ⟨u, hu, h2, h1, hg⟩
      · rw [h1]; intro; omega
      · intro _
        obtain ⟨⟨g1, g2, g3, g4⟩, _⟩ := (gd_iff hes hu).1 hg
        have hlu := h.dom u hu
        refine ⟨u, hu, h2, g2, by rw [jn_comm]; exact ((g4 v hv).2 rfl).1, ?_, ?_⟩
        · rw [hly u hu, (hold u hu g1).2, h1]; omega
        · intro w hw hj hne
          have hw0 : 0 ≤ ix ly w := by
            refine Decidable.byContradiction fun hn => hne ((g4 w hw).1 ⟨hj, by omega⟩)
          have := h.dom w hw
          rw [hly w hw, (hold w hw hw0).2, h1]; omega
    · have ho := hold v hv (by omega)
      rw [ho.2, ho.1]
      intro h1
      obtain ⟨u, hu, h2, h3, h4, h5, h6⟩ := h.nxs v hv h1
      refine ⟨u, hu, h2, h3, h4, by rw [hly u hu, (hold u hu h5.1).2]; exact h5, fun w hw hj hne => ?_⟩
      have := h6 w hw hj hne
      rw [hly w hw, (hold w hw this.1).2]; exact this
  · intro v w hv hw
    rw [hnx v hv, hnx w hw]
    by_cases h0 : ix ly v < 0
    · rcases hnew v hv h0 with ⟨_, h2⟩ | ⟨u, hu, h2, h1, hg⟩
      · rw [h2]; intro; omega
      · obtain ⟨⟨g1, g2, g3, g4⟩, _⟩ := (gd_iff hes hu).1 hg
        rw [h2]
        intro _ he
        by_cases hw0 : ix ly w < 0
        · rcases hnew w hw hw0 with ⟨_, h3⟩ | ⟨u', hu', h3, _, hg'⟩
          · rw [h3] at he; omega
          · rw [h3] at he
            have : u = u' := by omega
            subst this
            obtain ⟨⟨_, _, _, g4'⟩, _⟩ := (gd_iff hes hu).1 hg'
            exact (g4' v hv).1 ((g4 v hv).2 rfl)
        · rw [(hold w hw (by omega)).1] at he
          exact absurd he.symm (hasI_no.1 g3 w hw)
    · rw [(hold v hv (by omega)).1]
      intro h1 he
      by_cases hw0 : ix ly w < 0
      · rcases hnew w hw hw0 with ⟨_, h3⟩ | ⟨u', hu', h3, _, hg'⟩
        · rw [h3] at he; omega
        · rw [h3] at he
          obtain ⟨⟨_, _, g3, _⟩, _⟩ := (gd_iff hes hu').1 hg'
          exact absurd he (hasI_no.1 g3 v hv)
      · rw [(hold w hw (by omega)).1] at he
        exact h.inj v w hv hw h1 he
  · intro v hv
    rw [hly v hv]
    intro h1
    refine Decidable.byContradiction fun hn => ?_
    rw [(hold v hv (by omega)).2] at h1; exact hn h1
/-- The least of some. -/
theorem least_of (f : Nat → Int) (P : Nat → Prop) [DecidablePred P] : ∀ (n : Nat), (∃ v, v < n ∧ P v) → ∃ v, v < n ∧ P v ∧ ∀ w, w < n → P w → f v ≤ f w
  | 0, ⟨v, hv, _⟩ => by omega
  | n + 1, h => by
    by_cases h2 : ∃ v, v < n ∧ P v
    · obtain ⟨v, hv, hp, hm⟩ := least_of f P n h2
      by_cases hn : P n
      · by_cases hc : f v ≤ f n
        · exact ⟨v, by omega, hp, fun w hw hpw => by
            by_cases e : w = n
            · subst e; exact hc
            · exact hm w (by omega) hpw⟩
        · exact ⟨n, by omega, hn, fun w hw hpw => by
            by_cases e : w = n
            · subst e; exact Int.le_refl _
            · have := hm w (by omega) hpw; omega⟩
      · exact ⟨v, by omega, hp, fun w hw hpw => by
          by_cases e : w = n
          · subst e; exact absurd hpw hn
          · exact hm w (by omega) hpw⟩
    · obtain ⟨v, hv, hp⟩ := h
      have e : v = n := by
        refine Decidable.byContradiction fun hne => h2 ⟨v, by omega, hp⟩
      subst e
      exact ⟨v, by omega, hp, fun w hw hpw => by
        by_cases e : w = v
        · subst e; exact Int.le_refl _
        · exact absurd ⟨w, by omega, hpw⟩ h2⟩
theorem fl_at {es : List Int} {m n : Nat} {is : List Int} {ni : Nat} {os : List Int} {no : Nat} {nx ly : List Int} {nn nl : Nat} (h : flB es m n is ni os no nx nn ly nl = true) {v : Nat} (hv : v < n) (ho : hasI os v no = false) :
    ∃ u : Nat, u < n ∧ ix nx v = (u : Int) ∧ hasI is u ni = false ∧ (ngK es v m).testBit u = true ∧ ix ly u < ix ly v ∧ ∀ w, w < n → (ngK es u m).testBit w = true → w ≠ v → ix ly w < ix ly v := by
  simp only [flB, Bool.and_eq_true, decide_eq_true_eq] at h
  have h1 := allI_iff.1 h.2 v (by omega)
  rw [flAt, ho, if_neg (by decide)] at h1
  simp only [Bool.and_eq_true, Bool.not_eq_true'] at h1
  obtain ⟨⟨⟨⟨h2, h3⟩, h4⟩, h5⟩, h6⟩ := h1
  have h2 := within_iff.1 h2
  obtain ⟨u, hu⟩ : ∃ u : Nat, ix nx v = u := ⟨(ix nx v).toNat, by omega⟩
  rw [hu] at h2 h3 h4 h5 h6
  simp only [Int.toNat_natCast] at h4 h5 h6
  refine ⟨u, by omega, hu, h3, h4, bef_iff.1 h5 u (by omega) (by rw [Nat.testBit_two_pow]; simp), fun w hw hb hne => ?_⟩
  refine bef_iff.1 h6 w hw ?_
  rw [clr_bit, hb, decide_eq_false fun e => hne e.symm]; rfl
/-- A flow leads on. -/
theorem cf_more {es : List Int} {m n : Nat} {is : List Int} {ni : Nat} {os : List Int} {no k : Nat} {nx ly F L : List Int} {nn nl : Nat} (hes : edgesOk (n : Int) es m = true) (hk : 1 ≤ k) (h : FlI es m n is ni os no k nx ly) (hf : flB es m n is ni os no F nn L nl = true) (hl : unl ly n ≠ 0) :
    unl (cfS es m n is ni k (nx, ly)).2 n ≠ unl ly n := by
  have hex : ∃ v, v < n ∧ ix ly v < 0 := by
    refine Decidable.byContradiction fun hn => hl (unl_zero.2 fun v hv => ?_)
    refine Decidable.byContradiction fun h0 => hn ⟨v, hv, by omega⟩
  obtain ⟨v, hv, h0, hmin⟩ := least_of (fun v => ix L v) (fun v => ix ly v < 0) n hex
  have ho : hasI os v no = false := by
    cases hb : hasI os v no with
    | false => rfl
    | true => have := (h.out v hv).1 hb; omega
  obtain ⟨u, hu, _, g1, g2, g3, g4⟩ := fl_at hf hv ho
  have hlab : ∀ w, w < n → ix L w < ix L v → 0 ≤ ix ly w := by
    intro w hw hlt
    refine Decidable.byContradiction fun hn => ?_
    have : ix L v ≤ ix L w := hmin w hw (by omega)
    omega
  have hju : jn es u v m = true := by rw [← ng_bit hes u v m (Nat.le_refl _)]; exact g2
  have hgd : gdB es m n is ni nx ly u v = true := by
    refine (gd_iff hes hu).2 ⟨⟨hlab u hu g3, g1, ?_, fun w hw => ⟨?_, ?_⟩⟩, .inl hv⟩
    · rw [hasI_no]
      intro w hw he
      have hw1 : 1 ≤ ix ly w := by
        refine Decidable.byContradiction fun hn => ?_
        have := h.nxo w hw (by omega)
        omega
      obtain ⟨u', hu', h2, _, _, _, h6⟩ := h.nxs w hw hw1
      have : u' = u := by omega
      subst this
      have hne : v ≠ w := by intro e; subst e; omega
      have := h6 v hv (by rw [jn_comm]; exact hju) hne
      omega
    · rintro ⟨hj, hw0⟩
      refine Decidable.byContradiction fun hne => ?_
      have := hlab w hw (g4 w hw (by rw [ng_bit hes w u m (Nat.le_refl _)]; exact hj) hne)
      omega
    · rintro rfl
      exact ⟨by rw [jn_comm]; exact hju, h0⟩
  intro he
  have h1 := (unl_congr.1 he v hv).2 h0
  have h2 : ix (cfS es m n is ni k (nx, ly)).2 v = lyV es m n is ni k nx ly v := ix_mapN hv
  have hb : (unl ly n).testBit v = true := by rw [unl_bit]; simp [hv, h0]
  rw [h2, lyV, if_pos ⟨hb, findI_nonneg.2 (anyI_true hu hgd)⟩] at h1
  omega
theorem cfR_ok {es : List Int} {m n : Nat} {is : List Int} {ni : Nat} {os : List Int} {no : Nat} (hes : edgesOk (n : Int) es m = true) : ∀ (f k : Nat) (nx ly : List Int), 1 ≤ k → FlI es m n is ni os no k nx ly → cntU ly n < f →
    (∀ s, cfR es m n is ni f k (nx, ly) = some s → FlI es m n is ni os no (k + cntU ly n) s.1 s.2 ∧ unl s.2 n = 0) ∧
    (∀ F nn L nl, flB es m n is ni os no F nn L nl = true → cfR es m n is ni f k (nx, ly) ≠ none)
  | 0, k, nx, ly, _, _, hc => by omega
  | f + 1, k, nx, ly, hk, h, hc => by
    rw [cfR]
    by_cases h0 : unl ly n = 0
    · rw [if_pos h0]
      refine ⟨fun s hs => ?_, fun F nn L nl hf => by simp⟩
      cases hs
      refine ⟨⟨h.ln, h.ll, fun v hv => ?_, h.out, h.nxo, h.nxs, h.inj⟩, h0⟩
      have h1 := h.dom v hv
      show ix ly v = -1 ∨ (0 ≤ ix ly v ∧ ix ly v < ((k + cntU ly n : Nat) : Int))
      omega
    · rw [if_neg h0]
      obtain ⟨h1, h2⟩ := h.step hes hk
      by_cases h3 : unl (cfS es m n is ni k (nx, ly)).2 n = unl ly n
      · rw [if_pos h3]
        exact ⟨(fun s hs => nomatch hs), fun F nn L nl hf => absurd h3 (cf_more hes hk h hf h0)⟩
      · rw [if_neg h3]
        have hlt : cntU (cfS es m n is ni k (nx, ly)).2 n < cntU ly n := by
          refine cntU_lt h2 ?_
          refine Decidable.byContradiction fun hn => h3 (unl_congr.2 fun v hv => ⟨h2 v hv, fun hv0 => ?_⟩)
          refine Decidable.byContradiction fun hp => hn ⟨v, hv, hv0, by omega⟩
        obtain ⟨h4, h5⟩ := cfR_ok hes f (k + 1) _ _ (by omega) h1 (by omega)
        refine ⟨fun s hs => ?_, h5⟩
        obtain ⟨h6, h7⟩ := h4 s hs
        refine ⟨⟨h6.ln, h6.ll, fun v hv => ?_, h6.out, h6.nxo, h6.nxs, h6.inj⟩, h7⟩
        have h8 := h6.dom v hv
        omega
/-- The layers at the start. -/
def ly0 (os : List Int) (no n : Nat) : List Int := mapN (fun v => if hasI os v no then 0 else -1) n
theorem fl_start {es : List Int} {m n : Nat} {is : List Int} {ni : Nat} {os : List Int} {no : Nat} : FlI es m n is ni os no 1 (List.replicate n (-1)) (ly0 os no n) := by
  have hly : ∀ v, v < n → ix (ly0 os no n) v = if hasI os v no then 0 else -1 := fun v hv => ix_mapN hv
  have hnx : ∀ v, v < n → ix (List.replicate n (-1 : Int)) v = -1 := fun v hv => by simp [ix, List.getD, hv]
  refine ⟨by simp, by simp [ly0], ?_, ?_, fun v hv _ => hnx v hv, ?_, ?_⟩
  · intro v hv
    rw [hly v hv]; split <;> omega
  · intro v hv
    rw [hly v hv]; split <;> simp_all
  · intro v hv h1
    rw [hly v hv] at h1
    split at h1 <;> omega
  · intro v w hv hw h1
    rw [hnx v hv] at h1; omega
theorem fl_sound {es : List Int} {m n : Nat} {is : List Int} {ni : Nat} {os : List Int} {no k : Nat} {nx ly : List Int} (hes : edgesOk (n : Int) es m = true) (hk : k ≤ 101) (h : FlI es m n is ni os no k nx ly) (h0 : unl ly n = 0) : flB es m n is ni os no nx n ly n = true := by
  have hp := unl_zero.1 h0
  simp only [flB, layB, Bool.and_eq_true, decide_eq_true_eq, allI_iff]
  refine ⟨⟨trivial, trivial, fun v hv => within_iff.2 ?_⟩, fun v hv => ?_⟩
  · have := h.dom v hv
    have := hp v hv
    omega
  · unfold flAt
    by_cases ho : hasI os v no = true
    · rw [if_pos ho, decide_eq_true_eq]
      exact h.nxo v hv (by have := (h.out v hv).1 ho; omega)
    · rw [if_neg ho]
      have hv1 : 1 ≤ ix ly v := by
        have h1 := hp v hv
        refine Decidable.byContradiction fun hn => ho ((h.out v hv).2 (by omega))
      obtain ⟨u, hu, h2, h3, h4, h5, h6⟩ := h.nxs v hv hv1
      rw [h2]
      simp only [Bool.and_eq_true, Bool.not_eq_true', Int.toNat_natCast]
      refine ⟨⟨⟨⟨within_iff.2 (by omega), h3⟩, by rw [ng_bit hes u v m (Nat.le_refl _)]; exact h4⟩, bef_iff.2 fun w hw hb => ?_⟩, bef_iff.2 fun w hw hb => ?_⟩
      · rw [Nat.testBit_two_pow, decide_eq_true_eq] at hb
        subst hb; exact h5.2
      · rw [clr_bit, ng_bit hes w u m (Nat.le_refl _)] at hb
        simp only [Bool.and_eq_true, Bool.not_eq_true', decide_eq_false_iff_not] at hb
        exact (h6 w hw hb.1 fun e => hb.2 e.symm).2
/-- u has an odd number of neighbours among the nodes of a set below k. -/
def oddB (es : List Int) (m set u : Nat) : Nat → Bool
  | 0 => false
  | k + 1 => oddB es m set u k ^^ (set.testBit k && jn es u k m)
def oddM (es : List Int) (m n set : Nat) : Nat → Nat
  | 0 => 0
  | v + 1 => if oddB es m set v n then oddM es m n set v ||| 2 ^ v else oddM es m n set v
theorem oddM_bit (es : List Int) (m n set u : Nat) : ∀ k, (oddM es m n set k).testBit u = (decide (u < k) && oddB es m set u n)
  | 0 => by simp [oddM]
  | k + 1 => by
    have ih := oddM_bit es m n set u k
    rw [oddM]
    split
    · rename_i h
      rw [or_bit, ih]
      by_cases e : k = u
      · subst e; simp [h]
      · have : (u < k + 1) ↔ (u < k) := by omega
        rw [decide_eq_false e, Bool.or_false]; simp only [this]
    · rename_i h
      rw [ih]
      by_cases e : k = u
      · subst e; simp [h]
      · have : (u < k + 1) ↔ (u < k) := by omega
        simp only [this]
theorem oddM_lt (es : List Int) (m n set : Nat) : ∀ k, oddM es m n set k < 2 ^ k
  | 0 => by simp [oddM]
  | k + 1 => by
    have ih := oddM_lt es m n set k
    have h2 : 2 ^ k < 2 ^ (k + 1) := Nat.pow_lt_pow_right (by omega) (by omega)
    rw [oddM]
    split
    · exact or_pow_lt (by omega) (by omega)
    · omega
theorem oddB_zero (es : List Int) (m u : Nat) : ∀ k, oddB es m 0 u k = false
  | 0 => rfl
  | k + 1 => by rw [oddB, oddB_zero es m u k]; simp
theorem oddB_one {es : List Int} {m v u : Nat} : ∀ k, oddB es m (2 ^ v) u k = (decide (v < k) && jn es u v m)
  | 0 => by simp [oddB]
  | k + 1 => by
    rw [oddB, oddB_one k, Nat.testBit_two_pow]
    by_cases e : v = k
    · subst e; simp
    · have : (v < k + 1) ↔ (v < k) := by omega
      rw [decide_eq_false e]; simp [this]
def gfAt (es : List Int) (m n : Nat) (is : List Int) (ni : Nat) (os : List Int) (no : Nat) (ss ly : List Int) (v : Nat) : Bool :=
  if hasI os v no = true then decide (ix ss v = 0) else
    within (ix ss v) 0 (((2 ^ n : Nat) : Int) - 1) && decide ((ix ss v).toNat &&& mskK is ni = 0) && !(ix ss v).toNat.testBit v && (oddM es m n (ix ss v).toNat n).testBit v && befB ly v ((ix ss v).toNat ||| clr (oddM es m n (ix ss v).toNat n) v) n
/-- A generalised flow. -/
def gfB (es : List Int) (m n : Nat) (is : List Int) (ni : Nat) (os : List Int) (no : Nat) (ss : List Int) (nn : Nat) (ly : List Int) (nl : Nat) : Bool :=
  (decide (nn = n) && layB ly nl n) && allI (gfAt es m n is ni os no ss ly) nn
/-- A set that serves v. -/
def svB (es : List Int) (m n al lf v set : Nat) : Bool := decide (0 < set) && decide (set &&& al = set) && decide (oddM es m n set n &&& lf = 2 ^ v)
def allw (is : List Int) (ni n lf : Nat) : Nat := (2 ^ n - 1) ^^^ ((2 ^ n - 1) &&& (lf ||| mskK is ni))
theorem allw_bit {is : List Int} {ni n lf u : Nat} (hi : ∀ i, i < ni → 0 ≤ ix is i) : (allw is ni n lf).testBit u = (decide (u < n) && !lf.testBit u && !hasI is u ni) := by
  unfold allw
  rw [Nat.testBit_xor, Nat.testBit_and, Nat.testBit_or, mskK_bit hi, Nat.testBit_two_pow_sub_one]
  cases decide (u < n) <;> cases lf.testBit u <;> cases hasI is u ni <;> rfl
def ssV (es : List Int) (m n : Nat) (is : List Int) (ni : Nat) (ss ly : List Int) (v : Nat) : Int := if (unl ly n).testBit v = true ∧ 0 ≤ findI (svB es m n (allw is ni n (unl ly n)) (unl ly n) v) (2 ^ n) then findI (svB es m n (allw is ni n (unl ly n)) (unl ly n) v) (2 ^ n) else ix ss v
def lgV (es : List Int) (m n : Nat) (is : List Int) (ni : Nat) (k : Nat) (ly : List Int) (v : Nat) : Int := if (unl ly n).testBit v = true ∧ 0 ≤ findI (svB es m n (allw is ni n (unl ly n)) (unl ly n) v) (2 ^ n) then (k : Int) else ix ly v
/-- One step of the search for a generalised flow. -/
def gfS (es : List Int) (m n : Nat) (is : List Int) (ni k : Nat) (s : List Int × List Int) : List Int × List Int := (mapN (ssV es m n is ni s.1 s.2) n, mapN (lgV es m n is ni k s.2) n)
def gfR (es : List Int) (m n : Nat) (is : List Int) (ni : Nat) : Nat → Nat → List Int × List Int → Option (List Int × List Int)
  | 0, _, _ => none
  | f + 1, k, s => if unl s.2 n = 0 then some s else if unl (gfS es m n is ni k s).2 n = unl s.2 n then none else gfR es m n is ni f (k + 1) (gfS es m n is ni k s)
structure GlI (es : List Int) (m n : Nat) (is : List Int) (ni : Nat) (os : List Int) (no : Nat) (k : Nat) (ss ly : List Int) : Prop where
  ln : ss.length = n
  ll : ly.length = n
  dom : ∀ v, v < n → ix ly v = -1 ∨ (0 ≤ ix ly v ∧ ix ly v < k)
  out : ∀ v, v < n → (hasI os v no = true ↔ ix ly v = 0)
  nxo : ∀ v, v < n → ix ly v ≤ 0 → ix ss v = 0
  nxs : ∀ v, v < n → 1 ≤ ix ly v → ∃ s : Nat, s < 2 ^ n ∧ ix ss v = (s : Int) ∧ oddB es m s v n = true ∧ (∀ u, u < n → s.testBit u = true → hasI is u ni = false ∧ 0 ≤ ix ly u ∧ ix ly u < ix ly v) ∧ ∀ u, u < n → oddB es m s u n = true → u ≠ v → 0 ≤ ix ly u ∧ ix ly u < ix ly v
theorem sv_iff {es : List Int} {m n : Nat} {is : List Int} {ni : Nat} (hi : ∀ i, i < ni → 0 ≤ ix is i) {ly : List Int} {s v : Nat} (hs : s < 2 ^ n) (hv : v < n) : svB es m n (allw is ni n (unl ly n)) (unl ly n) v s = true ↔ (0 < s ∧ (∀ u, u < n → s.testBit u = true → 0 ≤ ix ly u ∧ hasI is u ni = false) ∧ ∀ u, u < n → ((oddB es m s u n = true ∧ ix ly u < 0) ↔ u = v)) := by
  have hbig : ∀ u, n ≤ u → s.testBit u = false := fun u hu => Nat.testBit_lt_two_pow (Nat.lt_of_lt_of_le hs (Nat.pow_le_pow_right (by omega) hu))
  unfold svB
  simp only [Bool.and_eq_true, decide_eq_true_eq]
  constructor
  · rintro ⟨⟨h1, h2⟩, h3⟩
    refine ⟨h1, fun u hu hb => ?_, fun u hu => ?_⟩
    · have := congrArg (fun x => x.testBit u) h2
      simp only [Nat.testBit_and, hb, Bool.true_and, allw_bit hi, hu, decide_true, unl_bit] at this
      simp only [Bool.and_eq_true, Bool.not_eq_true', decide_eq_false_iff_not] at this
      exact ⟨by omega, this.2⟩
    · have := congrArg (fun x => x.testBit u) h3
      simp only [Nat.testBit_and, oddM_bit, unl_bit, hu, decide_true, Bool.true_and, Nat.testBit_two_pow] at this
      rw [Bool.eq_iff_iff] at this
      simp only [Bool.and_eq_true, decide_eq_true_eq] at this
      rw [this]; omega
  · rintro ⟨h1, h2, h3⟩
    refine ⟨⟨h1, Nat.eq_of_testBit_eq fun u => ?_⟩, Nat.eq_of_testBit_eq fun u => ?_⟩
    · rw [Nat.testBit_and, allw_bit hi, unl_bit]
      by_cases hu : u < n
      · cases hb : s.testBit u with
        | false => rfl
        | true =>
          have h4 := h2 u hu hb
          rw [h4.2]; simp [hu]; omega
      · rw [hbig u (by omega)]; rfl
    · rw [Nat.testBit_and, oddM_bit, unl_bit, Nat.testBit_two_pow, Bool.eq_iff_iff]
      simp only [Bool.and_eq_true, decide_eq_true_eq]
      constructor
      · rintro ⟨⟨a, b⟩, _, c⟩; exact ((h3 u a).1 ⟨b, c⟩).symm
      · rintro rfl
        obtain ⟨a, b⟩ := (h3 v hv).2 rfl
        exact ⟨⟨hv, a⟩, hv, b⟩
theorem GlI.step {es : List Int} {m n : Nat} {is : List Int} {ni : Nat} {os : List Int} {no k : Nat} {ss ly : List Int} (hi : ∀ i, i < ni → 0 ≤ ix is i) (hk : 1 ≤ k) (h : GlI es m n is ni os no k ss ly) :
    GlI es m n is ni os no (k + 1) (gfS es m n is ni k (ss, ly)).1 (gfS es m n is ni k (ss, ly)).2 ∧ (∀ v, v < n → ix (gfS es m n is ni k (ss, ly)).2 v < 0 → ix ly v < 0) := by
  have hss : ∀ v, v < n → ix (gfS es m n is ni k (ss, ly)).1 v = ssV es m n is ni ss ly v := fun v hv => ix_mapN hv
  have hly : ∀ v, v < n → ix (gfS es m n is ni k (ss, ly)).2 v = lgV es m n is ni k ly v := fun v hv => ix_mapN hv
  have hold : ∀ v, v < n → 0 ≤ ix ly v → ssV es m n is ni ss ly v = ix ss v ∧ lgV es m n is ni k ly v = ix ly v := by
    intro v hv h0
    have hb : (unl ly n).testBit v = false := by rw [unl_bit]; simp; omega
    exact ⟨by rw [ssV, hb]; simp, by rw [lgV, hb]; simp⟩
  have hnew : ∀ v, v < n → ix ly v < 0 → (lgV es m n is ni k ly v = -1 ∧ ssV es m n is ni ss ly v = ix ss v) ∨ ∃ s : Nat, s < 2 ^ n ∧ ssV es m n is ni ss ly v = (s : Int) ∧ lgV es m n is ni k ly v = (k : Int) ∧ svB es m n (allw is ni n (unl ly n)) (unl ly n) v s = true := by
    intro v hv h0
    have hb : (unl ly n).testBit v = true := by rw [unl_bit]; simp [hv, h0]
    have hd : ix ly v = -1 := by rcases h.dom v hv with h1 | h1 <;> omega
    by_cases hf : 0 ≤ findI (svB es m n (allw is ni n (unl ly n)) (unl ly n) v) (2 ^ n)
    · obtain ⟨h1, h2⟩ := findI_sat' hf
      exact .inr ⟨_, h1, by rw [ssV, if_pos ⟨hb, hf⟩]; omega, by rw [lgV, if_pos ⟨hb, hf⟩], h2⟩
    · left
      exact ⟨by rw [lgV, if_neg fun hc => hf hc.2]; exact hd, by rw [ssV, if_neg fun hc => hf hc.2]⟩
  refine ⟨⟨mapN_length _ _, mapN_length _ _, ?_, ?_, ?_, ?_⟩, ?_⟩
  · intro v hv
    rw [hly v hv]
    by_cases h0 : ix ly v < 0
    · rcases hnew v hv h0 with ⟨h1, _⟩ | ⟨u, _, _, h1, _⟩ <;> rw [h1] <;> omega
    · rw [(hold v hv (by omega)).2]
      rcases h.dom v hv with h1 | h1 <;> omega
  · intro v hv
    rw [hly v hv, h.out v hv]
    by_cases h0 : ix ly v < 0
    · rcases hnew v hv h0 with ⟨h1, _⟩ | ⟨u, _, _, h1, _⟩ <;> rw [h1] <;> omega
    · rw [(hold v hv (by omega)).2]
  · intro v hv
    rw [hly v hv, hss v hv]
    by_cases h0 : ix ly v < 0
    · rcases hnew v hv h0 with ⟨h1, h2⟩ | ⟨u, _, _, h1, _⟩
      · intro _; rw [h2]; exact h.nxo v hv (by omega)
      · rw [h1]; intro; omega
    · rw [(hold v hv (by omega)).2, (hold v hv (by omega)).1]; exact h.nxo v hv
  · intro v hv
    rw [hly v hv, hss v hv]
    by_cases h0 : ix ly v < 0
    · rcases hnew v hv h0 with ⟨h1, h2⟩ | ⟨s, hs, h2, h1, hg⟩
      · rw [h1]; intro; omega
      · intro _
        obtain ⟨_, g2, g3⟩ := (sv_iff hi hs hv).1 hg
        refine ⟨s, hs, h2, ((g3 v hv).2 rfl).1, fun u hu hb => ?_, fun u hu hb hne => ?_⟩
        · obtain ⟨g4, g5⟩ := g2 u hu hb
          have := h.dom u hu
          refine ⟨g5, ?_⟩
          rw [hly u hu, (hold u hu g4).2, h1]; omega
        · have hu0 : 0 ≤ ix ly u := by
            refine Decidable.byContradiction fun hn => hne ((g3 u hu).1 ⟨hb, by omega⟩)
          have := h.dom u hu
          rw [hly u hu, (hold u hu hu0).2, h1]; omega
    · have ho := hold v hv (by omega)
      rw [ho.2, ho.1]
      intro h1
      obtain ⟨s, hs, h2, h3, h4, h5⟩ := h.nxs v hv h1
      refine ⟨s, hs, h2, h3, fun u hu hb => ?_, fun u hu hb hne => ?_⟩
      · obtain ⟨g4, g5, g6⟩ := h4 u hu hb
        rw [hly u hu, (hold u hu g5).2]; exact ⟨g4, g5, g6⟩
      · have := h5 u hu hb hne
        rw [hly u hu, (hold u hu this.1).2]; exact this
  · intro v hv
    rw [hly v hv]
    intro h1
    refine Decidable.byContradiction fun hn => ?_
    rw [(hold v hv (by omega)).2] at h1; exact hn h1
theorem gf_at {es : List Int} {m n : Nat} {is : List Int} {ni : Nat} (hi : ∀ i, i < ni → 0 ≤ ix is i) {os : List Int} {no : Nat} {ss ly : List Int} {nn nl : Nat} (h : gfB es m n is ni os no ss nn ly nl = true) {v : Nat} (hv : v < n) (ho : hasI os v no = false) :
    ∃ s : Nat, s < 2 ^ n ∧ ix ss v = (s : Int) ∧ oddB es m s v n = true ∧ (∀ u, u < n → s.testBit u = true → hasI is u ni = false ∧ ix ly u < ix ly v) ∧ ∀ u, u < n → oddB es m s u n = true → u ≠ v → ix ly u < ix ly v := by
  simp only [gfB, Bool.and_eq_true, decide_eq_true_eq] at h
  have h1 := allI_iff.1 h.2 v (by omega)
  rw [gfAt, ho, if_neg (by decide)] at h1
  simp only [Bool.and_eq_true, Bool.not_eq_true', decide_eq_true_eq] at h1
  obtain ⟨⟨⟨⟨h2, h3⟩, h4⟩, h5⟩, h6⟩ := h1
  have h2 := within_iff.1 h2
  obtain ⟨s, hs⟩ : ∃ s : Nat, ix ss v = s := ⟨(ix ss v).toNat, by omega⟩
  rw [hs] at h2 h3 h4 h5 h6
  simp only [Int.toNat_natCast] at h3 h4 h5 h6
  rw [oddM_bit] at h5
  simp only [Bool.and_eq_true, decide_eq_true_eq] at h5
  have hp := Nat.two_pow_pos n
  refine ⟨s, by omega, hs, h5.2, fun u hu hb => ⟨?_, ?_⟩, fun u hu hb hne => ?_⟩
  · have := congrArg (fun x => x.testBit u) h3
    simp only [Nat.testBit_and, hb, Bool.true_and, mskK_bit hi, Nat.zero_testBit] at this
    exact this
  · exact bef_iff.1 h6 u hu (by rw [Nat.testBit_or, hb]; rfl)
  · refine bef_iff.1 h6 u hu ?_
    rw [Nat.testBit_or, clr_bit, oddM_bit, hb, show decide (v = u) = false from decide_eq_false fun e => hne e.symm]
    simp [hu]
theorem gf_more {es : List Int} {m n : Nat} {is : List Int} {ni : Nat} {os : List Int} {no k : Nat} {ss ly F L : List Int} {nn nl : Nat} (hi : ∀ i, i < ni → 0 ≤ ix is i) (hk : 1 ≤ k) (h : GlI es m n is ni os no k ss ly) (hf : gfB es m n is ni os no F nn L nl = true) (hl : unl ly n ≠ 0) :
    unl (gfS es m n is ni k (ss, ly)).2 n ≠ unl ly n := by
  have hex : ∃ v, v < n ∧ ix ly v < 0 := by
    refine Decidable.byContradiction fun hn => hl (unl_zero.2 fun v hv => ?_)
    refine Decidable.byContradiction fun h0 => hn ⟨v, hv, by omega⟩
  obtain ⟨v, hv, h0, hmin⟩ := least_of (fun v => ix L v) (fun v => ix ly v < 0) n hex
  have ho : hasI os v no = false := by
    cases hb : hasI os v no with
    | false => rfl
    | true => have := (h.out v hv).1 hb; omega
  obtain ⟨s, hs, _, g1, g2, g3⟩ := gf_at hi hf hv ho
  have hlab : ∀ w, w < n → ix L w < ix L v → 0 ≤ ix ly w := by
    intro w hw hlt
    refine Decidable.byContradiction fun hn => ?_
    have : ix L v ≤ ix L w := hmin w hw (by omega)
    omega
  have hs0 : 0 < s := by
    rcases Nat.eq_zero_or_pos s with h1 | h1
    · subst h1; rw [oddB_zero] at g1; cases g1
    · exact h1
  have hsv : svB es m n (allw is ni n (unl ly n)) (unl ly n) v s = true := by
    refine (sv_iff hi hs hv).2 ⟨hs0, fun u hu hb => ⟨hlab u hu (g2 u hu hb).2, (g2 u hu hb).1⟩, fun u hu => ⟨?_, ?_⟩⟩
    · rintro ⟨hb, hu0⟩
      refine Decidable.byContradiction fun hne => ?_
      have := hlab u hu (g3 u hu hb hne)
      omega
    · rintro rfl; exact ⟨g1, h0⟩
  intro he
  have h1 := (unl_congr.1 he v hv).2 h0
  have h2 : ix (gfS es m n is ni k (ss, ly)).2 v = lgV es m n is ni k ly v := ix_mapN hv
  have hb : (unl ly n).testBit v = true := by rw [unl_bit]; simp [hv, h0]
  rw [h2, lgV, if_pos ⟨hb, findI_nonneg.2 (anyI_true hs hsv)⟩] at h1
  omega
theorem gfR_ok {es : List Int} {m n : Nat} {is : List Int} {ni : Nat} {os : List Int} {no : Nat} (hi : ∀ i, i < ni → 0 ≤ ix is i) : ∀ (f k : Nat) (ss ly : List Int), 1 ≤ k → GlI es m n is ni os no k ss ly → cntU ly n < f →
    (∀ s, gfR es m n is ni f k (ss, ly) = some s → GlI es m n is ni os no (k + cntU ly n) s.1 s.2 ∧ unl s.2 n = 0) ∧
    (∀ F nn L nl, gfB es m n is ni os no F nn L nl = true → gfR es m n is ni f k (ss, ly) ≠ none)
  | 0, k, ss, ly, _, _, hc => by omega
  | f + 1, k, ss, ly, hk, h, hc => by
    rw [gfR]
    by_cases h0 : unl ly n = 0
    · rw [if_pos h0]
      refine ⟨fun s hs => ?_, fun F nn L nl hf => by simp⟩
      cases hs
      refine ⟨⟨h.ln, h.ll, fun v hv => ?_, h.out, h.nxo, h.nxs⟩, h0⟩
      have h1 := h.dom v hv
      show ix ly v = -1 ∨ (0 ≤ ix ly v ∧ ix ly v < ((k + cntU ly n : Nat) : Int))
      omega
    · rw [if_neg h0]
      obtain ⟨h1, h2⟩ := h.step hi hk
      by_cases h3 : unl (gfS es m n is ni k (ss, ly)).2 n = unl ly n
      · rw [if_pos h3]
        exact ⟨(fun s hs => nomatch hs), fun F nn L nl hf => absurd h3 (gf_more hi hk h hf h0)⟩
      · rw [if_neg h3]
        have hlt : cntU (gfS es m n is ni k (ss, ly)).2 n < cntU ly n := by
          refine cntU_lt h2 ?_
          refine Decidable.byContradiction fun hn => h3 (unl_congr.2 fun v hv => ⟨h2 v hv, fun hv0 => ?_⟩)
          refine Decidable.byContradiction fun hp => hn ⟨v, hv, hv0, by omega⟩
        obtain ⟨h4, h5⟩ := gfR_ok hi f (k + 1) _ _ (by omega) h1 (by omega)
        refine ⟨fun s hs => ?_, h5⟩
        obtain ⟨h6, h7⟩ := h4 s hs
        refine ⟨⟨h6.ln, h6.ll, fun v hv => ?_, h6.out, h6.nxo, h6.nxs⟩, h7⟩
        have h8 := h6.dom v hv
        omega
theorem gf_start {es : List Int} {m n : Nat} {is : List Int} {ni : Nat} {os : List Int} {no : Nat} : GlI es m n is ni os no 1 (List.replicate n 0) (ly0 os no n) := by
  have hly : ∀ v, v < n → ix (ly0 os no n) v = if hasI os v no then 0 else -1 := fun v hv => ix_mapN hv
  have hnx : ∀ v, v < n → ix (List.replicate n (0 : Int)) v = 0 := fun v hv => by simp [ix, List.getD, hv]
  refine ⟨by simp, by simp [ly0], ?_, ?_, fun v hv _ => hnx v hv, ?_⟩
  · intro v hv
    rw [hly v hv]; split <;> omega
  · intro v hv
    rw [hly v hv]; split <;> simp_all
  · intro v hv h1
    rw [hly v hv] at h1
    split at h1 <;> omega
theorem gf_sound {es : List Int} {m n : Nat} {is : List Int} {ni : Nat} (hi : ∀ i, i < ni → 0 ≤ ix is i) {os : List Int} {no k : Nat} {ss ly : List Int} (hk : k ≤ 101) (h : GlI es m n is ni os no k ss ly) (h0 : unl ly n = 0) : gfB es m n is ni os no ss n ly n = true := by
  have hp := unl_zero.1 h0
  simp only [gfB, layB, Bool.and_eq_true, decide_eq_true_eq, allI_iff]
  refine ⟨⟨trivial, trivial, fun v hv => within_iff.2 ?_⟩, fun v hv => ?_⟩
  · have := h.dom v hv
    have := hp v hv
    omega
  · unfold gfAt
    by_cases ho : hasI os v no = true
    · rw [if_pos ho, decide_eq_true_eq]
      exact h.nxo v hv (by have := (h.out v hv).1 ho; omega)
    · rw [if_neg ho]
      have hv1 : 1 ≤ ix ly v := by
        have h1 := hp v hv
        refine Decidable.byContradiction fun hn => ho ((h.out v hv).2 (by omega))
      obtain ⟨s, hs, h2, h3, h4, h5⟩ := h.nxs v hv hv1
      rw [h2]
      simp only [Bool.and_eq_true, Bool.not_eq_true', Int.toNat_natCast, decide_eq_true_eq]
      refine ⟨⟨⟨⟨within_iff.2 (by omega), Nat.eq_of_testBit_eq fun u => ?_⟩, ?_⟩, by rw [oddM_bit, h3]; simp [hv]⟩, bef_iff.2 fun u hu hb => ?_⟩
      · rw [Nat.testBit_and, mskK_bit hi, Nat.zero_testBit]
        cases hb : s.testBit u with
        | false => rfl
        | true =>
          by_cases hu : u < n
          · rw [(h4 u hu hb).1]; rfl
          · rw [Nat.testBit_lt_two_pow (Nat.lt_of_lt_of_le hs (Nat.pow_le_pow_right (by omega) (by omega)))] at hb; cases hb
      · cases hb : s.testBit v with
        | false => rfl
        | true => have := (h4 v hv hb).2; omega
      · rw [Nat.testBit_or, clr_bit, oddM_bit] at hb
        simp only [Bool.or_eq_true, Bool.and_eq_true, Bool.not_eq_true', decide_eq_false_iff_not, decide_eq_true_eq] at hb
        rcases hb with hb | ⟨⟨_, hb⟩, hne⟩
        · exact (h4 u hu hb).2.2
        · exact (h5 u hu hb fun e => hne e.symm).2
/-- A causal flow is a generalised one. -/
theorem fl_gf {es : List Int} {m n : Nat} {is : List Int} {ni : Nat} (hes : edgesOk (n : Int) es m = true) (hi : ∀ i, i < ni → 0 ≤ ix is i) {os : List Int} {no : Nat} {nx ly : List Int} (h : flB es m n is ni os no nx n ly n = true) :
    gfB es m n is ni os no (mapN (fun v => if 0 ≤ ix nx v then ((2 ^ (ix nx v).toNat : Nat) : Int) else 0) n) n ly n = true := by
  have h' := h
  simp only [flB, Bool.and_eq_true, decide_eq_true_eq] at h'
  simp only [gfB, Bool.and_eq_true, decide_eq_true_eq, allI_iff]
  refine ⟨h'.1, fun v hv => ?_⟩
  unfold gfAt
  rw [ix_mapN hv]
  by_cases ho : hasI os v no = true
  · rw [if_pos ho, decide_eq_true_eq]
    have h1 := allI_iff.1 h'.2 v hv
    rw [flAt, if_pos ho, decide_eq_true_eq] at h1
    rw [h1]; rfl
  · rw [if_neg ho]
    obtain ⟨u, hu, h2, h3, h4, h5, h6⟩ := fl_at h hv (by simpa using ho)
    rw [h2, if_pos (Int.natCast_nonneg _), Int.toNat_natCast, Int.toNat_natCast]
    have hp : 2 ^ u < 2 ^ n := Nat.pow_lt_pow_right (by omega) hu
    have hju : jn es u v m = true := by rw [← ng_bit hes u v m (Nat.le_refl _)]; exact h4
    have huv : u ≠ v := by
      rintro rfl
      rw [jn_irr hes u m (Nat.le_refl _)] at hju; cases hju
    simp only [Bool.and_eq_true, Bool.not_eq_true', decide_eq_true_eq]
    have hp2 : ((2 ^ u : Nat) : Int) < ((2 ^ n : Nat) : Int) := Int.ofNat_lt.2 hp
    refine ⟨⟨⟨⟨within_iff.2 ⟨Int.natCast_nonneg _, by omega⟩, Nat.eq_of_testBit_eq fun w => ?_⟩, by rw [Nat.testBit_two_pow, decide_eq_false huv]⟩, ?_⟩, bef_iff.2 fun w hw hb => ?_⟩
    · rw [Nat.testBit_and, Nat.testBit_two_pow, mskK_bit hi, Nat.zero_testBit]
      by_cases e : u = w
      · subst e; rw [h3]; simp
      · rw [decide_eq_false e]; rfl
    · rw [oddM_bit, oddB_one, jn_comm, hju]; simp [hv, hu]
    · rw [Nat.testBit_or, clr_bit, oddM_bit, oddB_one, Nat.testBit_two_pow] at hb
      simp only [Bool.or_eq_true, Bool.and_eq_true, Bool.not_eq_true', decide_eq_false_iff_not, decide_eq_true_eq] at hb
      rcases hb with rfl | ⟨⟨_, _, hb⟩, hne⟩
      · exact h5
      · exact h6 w hw (by rw [ng_bit hes w u m (Nat.le_refl _)]; exact hb) fun e => hne e.symm

end Go.Proofs.Ytoiaibgcjfgbcaa
