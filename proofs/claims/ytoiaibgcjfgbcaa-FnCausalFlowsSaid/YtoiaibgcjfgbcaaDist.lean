/- Plain laws: distances in a graph. -/
import Derived.Test.YtoiaibgcjfgbcaaFind
set_option linter.unusedSimpArgs false
set_option linter.unusedVariables false
namespace Go.Proofs.Ytoiaibgcjfgbcaa
open Go Go.RowKit

/-- How many numbers below n have the property. -/
def cntP (p : Nat → Bool) : Nat → Nat
  | 0 => 0
  | n + 1 => cntP p n + (if p n then 1 else 0)
theorem cntP_le (p : Nat → Bool) : ∀ n, cntP p n ≤ n
  | 0 => Nat.le_refl _
  | n + 1 => by have := cntP_le p n; simp only [cntP]; split <;> omega
theorem cntP_mono {p q : Nat → Bool} : ∀ {n}, (∀ i, i < n → p i = true → q i = true) → cntP p n ≤ cntP q n
  | 0, _ => Nat.le_refl _
  | n + 1, h => by
    have ih := cntP_mono (n := n) fun i hi => h i (by omega)
    have h1 := h n (by omega)
    simp only [cntP]
    cases hp : p n
    · simp; omega
    · simp [h1 hp]; exact ih
theorem cntP_lt {p q : Nat → Bool} : ∀ {n}, (∀ i, i < n → p i = true → q i = true) → (∃ i, i < n ∧ p i = false ∧ q i = true) → cntP p n < cntP q n
  | 0, _, ⟨i, h, _⟩ => by omega
  | n + 1, h, ⟨i, hi, hp, hq⟩ => by
    have hm := cntP_mono (n := n) fun i hi => h i (by omega)
    simp only [cntP]
    by_cases e : i = n
    · subst e; simp [hp, hq]; omega
    · have ih := cntP_lt (n := n) (fun i hi => h i (by omega)) ⟨i, by omega, hp, hq⟩
      have h1 := h n (by omega)
      cases hpn : p n
      · simp; omega
      · simp [h1 hpn]; exact ih
theorem cntP_congr {p q : Nat → Bool} {n : Nat} (h : ∀ i, i < n → p i = q i) : cntP p n = cntP q n :=
  Nat.le_antisymm (cntP_mono fun i hi hp => by rw [← h i hi]; exact hp) (cntP_mono fun i hi hp => by rw [h i hi]; exact hp)
/-- One number more has the property. -/
theorem cntP_add {p q : Nat → Bool} {x : Nat} : ∀ {n}, x < n → (∀ i, i < n → i ≠ x → p i = q i) → p x = false → q x = true → cntP q n = cntP p n + 1
  | 0, h, _, _, _ => by omega
  | n + 1, hx, h, hp, hq => by
    simp only [cntP]
    by_cases e : x = n
    · subst e
      rw [cntP_congr (p := q) (q := p) fun i hi => (h i (by omega) (by omega)).symm]; simp [hp, hq]
    · rw [cntP_add (n := n) (by omega) (fun i hi hne => h i (by omega) hne) hp hq, h n (by omega) (by omega)]; omega

/-- The distances of all nodes from node s: 0 at s; each other one that is reached has a neighbour one step nearer; neighbours of reached nodes are reached, at most one step further; -1 elsewhere. -/
structure IsDist (A : Nat → Nat → Bool) (N s : Nat) (o : List Int) : Prop where
  len : o.length = N
  src : ix o s = 0
  low : ∀ v, v < N → -1 ≤ ix o v
  par : ∀ v, v < N → 0 ≤ ix o v → v = s ∨ ∃ u, u < N ∧ A u v = true ∧ 0 ≤ ix o u ∧ ix o v = ix o u + 1
  rel : ∀ u, u < N → ∀ v, v < N → 0 ≤ ix o u → A u v = true → 0 ≤ ix o v ∧ ix o v ≤ ix o u + 1
theorem IsDist.key {A : Nat → Nat → Bool} {N s : Nat} {o o' : List Int} (h : IsDist A N s o) (h' : IsDist A N s o') : ∀ (d : Nat) (v : Nat), v < N → ix o v = d → 0 ≤ ix o' v ∧ ix o' v ≤ d := by
  intro d
  induction d with
  | zero =>
    intro v hv e
    rcases h.par v hv (by omega) with rfl | ⟨u, hu, ha, h0, h1⟩
    · have := h'.src; omega
    · omega
  | succ d ih =>
    intro v hv e
    rcases h.par v hv (by omega) with rfl | ⟨u, hu, ha, h0, h1⟩
    · have := h'.src; omega
    · have h2 := ih u hu (by omega)
      have h3 := h'.rel u hu v hv h2.1 ha
      omega
theorem IsDist.unique {A : Nat → Nat → Bool} {N s : Nat} {o o' : List Int} (h : IsDist A N s o) (h' : IsDist A N s o') : o = o' := by
  refine list_ext_ix (h.len.trans h'.len.symm) fun v hv => ?_
  have hvN : v < N := by rw [← h.len]; exact hv
  have l1 := h.low v hvN
  have l2 := h'.low v hvN
  by_cases p : 0 ≤ ix o v
  · have k1 := h.key h' (ix o v).toNat v hvN (by omega)
    have k2 := h'.key h (ix o' v).toNat v hvN (by omega)
    omega
  · by_cases p' : 0 ≤ ix o' v
    · have k2 := h'.key h (ix o' v).toNat v hvN (by omega)
      omega
    · omega
/-- A level that is reached has as many nodes below it. -/
theorem level_cnt {A : Nat → Nat → Bool} {N s : Nat} {o : List Int} (hs : s < N) (src : ix o s = 0) (par : ∀ v, v < N → 0 ≤ ix o v → v = s ∨ ∃ u, u < N ∧ A u v = true ∧ 0 ≤ ix o u ∧ ix o v = ix o u + 1) :
    ∀ (d : Nat) (v : Nat), v < N → ix o v = d → d + 1 ≤ cntP (fun u => decide (0 ≤ ix o u ∧ ix o u ≤ d)) N := by
  intro d
  induction d with
  | zero =>
    intro v hv e
    have := cntP_lt (p := fun _ => false) (q := fun u => decide (0 ≤ ix o u ∧ ix o u ≤ (0 : Nat))) (n := N) (by simp) ⟨s, hs, rfl, by simp [src]⟩
    omega
  | succ d ih =>
    intro v hv e
    rcases par v hv (by omega) with rfl | ⟨u, hu, ha, h0, h1⟩
    · omega
    · have h2 := ih u hu (by omega)
      have := cntP_lt (p := fun u => decide (0 ≤ ix o u ∧ ix o u ≤ d)) (q := fun u => decide (0 ≤ ix o u ∧ ix o u ≤ (d + 1 : Nat))) (n := N) (by intro i _; simp only [decide_eq_true_eq]; omega) ⟨v, hv, by simp only [decide_eq_false_iff_not]; omega, by simp only [decide_eq_true_eq]; omega⟩
      omega
theorem level_lt {A : Nat → Nat → Bool} {N s : Nat} {o : List Int} (hs : s < N) (src : ix o s = 0) (par : ∀ v, v < N → 0 ≤ ix o v → v = s ∨ ∃ u, u < N ∧ A u v = true ∧ 0 ≤ ix o u ∧ ix o v = ix o u + 1) {v : Nat} (hv : v < N) : ix o v < N := by
  by_cases h : 0 ≤ ix o v
  · have h1 := level_cnt hs src par (ix o v).toNat v hv (by omega)
    have h2 := cntP_le (fun u => decide (0 ≤ ix o u ∧ ix o u ≤ (ix o v).toNat)) N
    omega
  · omega

/-! ### The reference: level by level -/
/-- The first d levels are right. -/
structure IsLev (A : Nat → Nat → Bool) (N s d : Nat) (o : List Int) : Prop where
  len : o.length = N
  src : ix o s = 0
  low : ∀ v, v < N → -1 ≤ ix o v ∧ ix o v ≤ d
  par : ∀ v, v < N → 0 ≤ ix o v → v = s ∨ ∃ u, u < N ∧ A u v = true ∧ 0 ≤ ix o u ∧ ix o v = ix o u + 1
  rel : ∀ u, u < N → ∀ v, v < N → 0 ≤ ix o u → ix o u < d → A u v = true → 0 ≤ ix o v ∧ ix o v ≤ ix o u + 1
theorem IsLev.dist {A : Nat → Nat → Bool} {N s : Nat} {o : List Int} (hs : s < N) (h : IsLev A N s N o) : IsDist A N s o :=
  ⟨h.len, h.src, fun v hv => (h.low v hv).1, h.par, fun u hu v hv h0 ha => h.rel u hu v hv h0 (level_lt hs h.src h.par hu) ha⟩
/-- In round d, behind all pairs (u, v) with u below i, or u = i and v below k. -/
structure InRound (A : Nat → Nat → Bool) (N d i k : Nat) (o0 o : List Int) : Prop where
  len : o.length = N
  old : ∀ v, v < N → 0 ≤ ix o0 v → ix o v = ix o0 v
  new : ∀ v, v < N → ix o0 v < 0 → (ix o v = ix o0 v ∨ (ix o v = d + 1 ∧ ∃ u, u < N ∧ ix o0 u = d ∧ A u v = true))
  done : ∀ u, u < i → u < N → ∀ v, v < N → ix o0 u = d → A u v = true → 0 ≤ ix o v
  part : ∀ v, v < k → v < N → ix o0 i = d → A i v = true → 0 ≤ ix o v
theorem InRound.start {A : Nat → Nat → Bool} {N d : Nat} {o : List Int} (h : o.length = N) : InRound A N d 0 0 o o :=
  ⟨h, fun _ _ _ => rfl, fun _ _ _ => .inl rfl, fun _ h => by omega, fun _ h => by omega⟩
theorem InRound.next {A : Nat → Nat → Bool} {N d i : Nat} {o0 o : List Int} (h : InRound A N d i N o0 o) : InRound A N d (i + 1) 0 o0 o :=
  ⟨h.len, h.old, h.new, fun u hu huN v hv h0 ha => by
    by_cases e : u = i
    · subst e; exact h.part v hv hv h0 ha
    · exact h.done u (by omega) huN v hv h0 ha, fun _ h => by omega⟩
/-- Nothing is to be set. -/
theorem InRound.keep {A : Nat → Nat → Bool} {N d i k : Nat} {o0 o : List Int} (h : InRound A N d i k o0 o) (hc : ix o0 i = d → A i k = true → 0 ≤ ix o k) : InRound A N d i (k + 1) o0 o :=
  ⟨h.len, h.old, h.new, h.done, fun v hv hvN h0 ha => by
    by_cases e : v = k
    · subst e; exact hc h0 ha
    · exact h.part v (by omega) hvN h0 ha⟩
theorem InRound.set {A : Nat → Nat → Bool} {N d i k : Nat} {o0 o : List Int} (h : InRound A N d i k o0 o) (hi : i < N) (hk : k < N) (h0 : ix o0 i = d) (ha : A i k = true) (hneg : ix o k < 0) : InRound A N d i (k + 1) o0 (o.set k (d + 1)) := by
  have hx : ∀ v, v < N → ix (o.set k ((d : Int) + 1)) v = if k = v then (d : Int) + 1 else ix o v := fun v hv => ix_set (by rw [h.len]; exact hv)
  refine ⟨by simp [h.len], fun v hv h1 => ?_, fun v hv h1 => ?_, fun u hu huN v hv h1 h2 => ?_, fun v hv hvN h1 h2 => ?_⟩
  · rw [hx v hv]
    have := h.old v hv h1
    by_cases e : k = v
    · subst e; omega
    · rw [if_neg e]; exact this
  · rw [hx v hv]
    by_cases e : k = v
    · subst e; rw [if_pos rfl]; exact .inr ⟨rfl, i, hi, h0, ha⟩
    · rw [if_neg e]; exact h.new v hv h1
  · rw [hx v hv]; split
    · omega
    · exact h.done u hu huN v hv h1 h2
  · rw [hx v hvN]; split
    · omega
    · exact h.part v (by omega) hvN h1 h2
theorem InRound.lev {A : Nat → Nat → Bool} {N s d : Nat} {o0 o : List Int} (h0 : IsLev A N s d o0) (h : InRound A N d N 0 o0 o) (hs : s < N) : IsLev A N s (d + 1) o := by
  refine ⟨h.len, ?_, fun v hv => ?_, fun v hv hv0 => ?_, fun u hu v hv hu0 hud ha => ?_⟩
  · rw [h.old s hs (by have := h0.src; omega)]; exact h0.src
  · have h1 := h0.low v hv
    by_cases e : 0 ≤ ix o0 v
    · rw [h.old v hv e]; omega
    · rcases h.new v hv (by omega) with h2 | ⟨h2, _⟩ <;> omega
  · by_cases e : 0 ≤ ix o0 v
    · rcases h0.par v hv e with h1 | ⟨u, hu, ha, hu0, h1⟩
      · exact .inl h1
      · exact .inr ⟨u, hu, ha, by rw [h.old u hu hu0]; exact hu0, by rw [h.old v hv e, h.old u hu hu0]; exact h1⟩
    · rcases h.new v hv (by omega) with h2 | ⟨h2, u, hu, hud, ha⟩
      · have := h0.low v hv; omega
      · exact .inr ⟨u, hu, ha, by rw [h.old u hu (by omega)]; omega, by rw [h2, h.old u hu (by omega), hud]⟩
  · have hlu := h0.low u hu
    have hlv := h0.low v hv
    by_cases e : 0 ≤ ix o0 u
    · have eu := h.old u hu e
      by_cases e2 : ix o0 u < d
      · have h1 := h0.rel u hu v hv e e2 ha
        rw [h.old v hv h1.1, eu]; exact h1
      · have e3 : ix o0 u = d := by omega
        have h1 := h.done u hu hu v hv e3 ha
        by_cases e4 : 0 ≤ ix o0 v
        · have := h.old v hv e4; omega
        · rcases h.new v hv (by omega) with h2 | ⟨h2, _⟩ <;> omega
    · rcases h.new u hu (by omega) with h2 | ⟨h2, _⟩ <;> omega
theorem IsLev.start {A : Nat → Nat → Bool} {N s : Nat} (hs : s < N) : IsLev A N s 0 ((List.replicate N (-1 : Int)).set s 0) := by
  have hx : ∀ v, v < N → ix ((List.replicate N (-1 : Int)).set s 0) v = if s = v then 0 else -1 := fun v hv => by
    rw [ix_set (by simpa using hv)]; split
    · rfl
    · simp [ix, List.getD, hv]
  refine ⟨by simp, by rw [hx s hs]; simp, fun v hv => by rw [hx v hv]; split <;> omega, fun v hv h => ?_, fun u hu v hv h1 h2 => ?_⟩
  · rw [hx v hv] at h
    by_cases e : s = v
    · exact .inl e.symm
    · rw [if_neg e] at h; omega
  · omega

/-! ### The program: a queue -/
/-- The queue q behind the nodes before at and the neighbours before position k of ns of the node at at. -/
structure InQ (A : Nat → Nat → Bool) (N s : Nat) (q : List Int) (at_ : Nat) (o : List Int) : Prop where
  slt : s < N
  len : o.length = N
  src : ix o s = 0
  low : ∀ v, v < N → -1 ≤ ix o v
  node : ∀ i, i < q.length → 0 ≤ ix q i ∧ ix q i < N
  val : ∀ i, i < q.length → 0 ≤ ix o (ix q i).toNat
  mem : ∀ v, v < N → 0 ≤ ix o v → ∃ i, i < q.length ∧ ix q i = v
  par : ∀ v, v < N → 0 ≤ ix o v → v = s ∨ ∃ u, u < N ∧ A u v = true ∧ 0 ≤ ix o u ∧ ix o v = ix o u + 1
  cnt : q.length = cntP (fun v => decide (0 ≤ ix o v)) N
  mono : ∀ i j, i ≤ j → j < q.length → ix o (ix q i).toNat ≤ ix o (ix q j).toNat
  last : at_ < q.length → ∀ i, i < q.length → ix o (ix q i).toNat ≤ ix o (ix q at_).toNat + 1
  rel : ∀ i, i < at_ → i < q.length → ∀ v, v < N → A (ix q i).toNat v = true → 0 ≤ ix o v ∧ ix o v ≤ ix o (ix q i).toNat + 1
theorem InQ.start {A : Nat → Nat → Bool} {N s : Nat} (hs : s < N) : InQ A N s [(s : Int)] 0 ((List.replicate N (-1 : Int)).set s 0) := by
  have hx : ∀ v, v < N → ix ((List.replicate N (-1 : Int)).set s 0) v = if s = v then 0 else -1 := fun v hv => by
    rw [ix_set (by simpa using hv)]; split
    · rfl
    · simp [ix, List.getD, hv]
  have h0 : ∀ i, i < [(s : Int)].length → i = 0 := fun i hi => by simp at hi; omega
  have e0 : ix [(s : Int)] 0 = s := rfl
  refine ⟨hs, by simp, by rw [hx s hs]; simp, fun v hv => by rw [hx v hv]; split <;> omega, fun i hi => ?_, fun i hi => ?_, fun v hv h => ?_, fun v hv h => ?_, ?_, fun i j hij hj => ?_, fun _ i hi => ?_, fun i hi => by omega⟩
  · rw [h0 i hi, e0]; omega
  · rw [h0 i hi, e0, Int.toNat_natCast, hx s hs]; simp
  · rw [hx v hv] at h
    by_cases e : s = v
    · exact ⟨0, by simp, by rw [e0, e]⟩
    · rw [if_neg e] at h; omega
  · rw [hx v hv] at h
    by_cases e : s = v
    · exact .inl e.symm
    · rw [if_neg e] at h; omega
  · have := cntP_add (p := fun _ => false) (q := fun v => decide (0 ≤ ix ((List.replicate N (-1 : Int)).set s 0) v)) (x := s) (n := N) hs (fun i hi hne => by rw [hx i hi, if_neg (by omega)]; simp) rfl (by rw [hx s hs]; simp)
    have h1 : ∀ n, cntP (fun _ => false) n = 0 := fun n => by induction n with
      | zero => rfl
      | succ n ih => simp [cntP, ih]
    rw [this, h1]; rfl
  · rw [h0 j hj, h0 i (by omega)]; exact Int.le_refl _
  · rw [h0 i hi]; omega
theorem InQ.size {A : Nat → Nat → Bool} {N s : Nat} {q : List Int} {at_ : Nat} {o : List Int} (h : InQ A N s q at_ o) : q.length ≤ N := by rw [h.cnt]; exact cntP_le _ _
theorem InQ.dist {A : Nat → Nat → Bool} {N s : Nat} {q : List Int} {at_ : Nat} {o : List Int} (h : InQ A N s q at_ o) (hat : q.length ≤ at_) : IsDist A N s o :=
  ⟨h.len, h.src, h.low, h.par, fun u hu v hv h0 ha => by
    obtain ⟨i, hi, e⟩ := h.mem u hu h0
    have e2 : (ix q i).toNat = u := by omega
    have := h.rel i (by omega) hi v hv (by rw [e2]; exact ha)
    rwa [e2] at this⟩
theorem ix_append_left {xs ys : List Int} {i : Nat} (h : i < xs.length) : ix (xs ++ ys) i = ix xs i := by simp only [ix, List.getD, List.getElem?_append_left h]
theorem ix_append_one {xs : List Int} {a : Int} : ix (xs ++ [a]) xs.length = a := by simp [ix, List.getD]
/-- A new node is met. -/
theorem InQ.push {A : Nat → Nat → Bool} {N s : Nat} {q : List Int} {at_ : Nat} {o : List Int} (h : InQ A N s q at_ o) (hat : at_ < q.length) {k : Nat} (hk : k < N) (hneg : ix o k < 0) (ha : A (ix q at_).toNat k = true) :
    InQ A N s (q ++ [(k : Int)]) at_ (o.set k (ix o (ix q at_).toNat + 1)) := by
  have hx : ∀ v, v < N → ix (o.set k (ix o (ix q at_).toNat + 1)) v = if k = v then ix o (ix q at_).toNat + 1 else ix o v := fun v hv => ix_set (by rw [h.len]; exact hv)
  have hnode : ∀ i, i < q.length → (ix q i).toNat < N ∧ (ix q i).toNat ≠ k := fun i hi => by
    have h1 := h.node i hi
    have h2 := h.val i hi
    refine ⟨by omega, fun e => ?_⟩
    rw [e] at h2; omega
  have hold : ∀ i, i < q.length → ix (o.set k (ix o (ix q at_).toNat + 1)) (ix q i).toNat = ix o (ix q i).toNat := fun i hi => by
    rw [hx _ (hnode i hi).1, if_neg (Ne.symm (hnode i hi).2)]
  have hks : k ≠ s := fun e => by have := h.src; rw [e] at hneg; omega
  have hv := h.val at_ hat
  have hs : s < N := h.slt
  have hlen : (q ++ [(k : Int)]).length = q.length + 1 := by simp
  have hsplit : ∀ i, i < (q ++ [(k : Int)]).length → (i < q.length ∧ ix (q ++ [(k : Int)]) i = ix q i) ∨ (i = q.length ∧ ix (q ++ [(k : Int)]) i = k) := fun i hi => by
    rw [hlen] at hi
    by_cases e : i < q.length
    · exact .inl ⟨e, ix_append_left e⟩
    · have e2 : i = q.length := by omega
      exact .inr ⟨e2, by rw [e2]; exact ix_append_one⟩
  have hkv : ix (o.set k (ix o (ix q at_).toNat + 1)) k = ix o (ix q at_).toNat + 1 := by rw [hx k hk, if_pos rfl]
  refine ⟨hs, by simp [h.len], ?_, fun v hv => ?_, fun i hi => ?_, fun i hi => ?_, fun v hv h0 => ?_, fun v hv h0 => ?_, ?_, fun i j hij hj => ?_, fun _ i hi => ?_, fun i hi1 hi v hv hA => ?_⟩
  · rw [hx s hs, if_neg hks]; exact h.src
  · rw [hx v hv]; split
    · omega
    · exact h.low v hv
  · rcases hsplit i hi with ⟨h1, e⟩ | ⟨h1, e⟩
    · rw [e]; exact h.node i h1
    · rw [e]; omega
  · rcases hsplit i hi with ⟨h1, e⟩ | ⟨h1, e⟩
    · rw [e, hold i h1]; exact h.val i h1
    · rw [e, Int.toNat_natCast, hkv]; omega
  · by_cases e : k = v
    · exact ⟨q.length, by simp, by rw [ix_append_one, e]⟩
    · rw [hx v hv, if_neg e] at h0
      obtain ⟨i, hi, e2⟩ := h.mem v hv h0
      exact ⟨i, by rw [hlen]; omega, by rw [ix_append_left hi]; exact e2⟩
  · by_cases e : k = v
    · subst e
      refine .inr ⟨(ix q at_).toNat, (hnode at_ hat).1, ha, ?_, ?_⟩
      · rw [hold at_ hat]; exact h.val at_ hat
      · rw [hkv, hold at_ hat]
    · rw [hx v hv, if_neg e] at h0 ⊢
      rcases h.par v hv h0 with h1 | ⟨u, hu, hA, h2, h3⟩
      · exact .inl h1
      · have hne : k ≠ u := fun e => by rw [e] at hneg; omega
        exact .inr ⟨u, hu, hA, by rw [hx u hu, if_neg hne]; exact h2, by rw [hx u hu, if_neg hne]; exact h3⟩
  · rw [hlen, h.cnt]
    refine (cntP_add (x := k) hk (fun i hi hne => ?_) ?_ ?_).symm
    · rw [hx i hi, if_neg (Ne.symm hne)]
    · simp only [decide_eq_false_iff_not]; omega
    · rw [hkv]; simp only [decide_eq_true_eq]; omega
  · rcases hsplit j hj with ⟨h1, e⟩ | ⟨h1, e⟩
    · rw [ix_append_left (show i < q.length by omega), e, hold i (by omega), hold j h1]; exact h.mono i j hij h1
    · rcases hsplit i (by omega) with ⟨h2, e2⟩ | ⟨h2, e2⟩
      · rw [e, e2, hold i h2, Int.toNat_natCast, hkv]; exact h.last hat i h2
      · rw [e, e2]; exact Int.le_refl _
  · rw [ix_append_left hat, hold at_ hat]
    rcases hsplit i hi with ⟨h1, e⟩ | ⟨h1, e⟩
    · rw [e, hold i h1]; exact h.last hat i h1
    · rw [e, Int.toNat_natCast, hkv]; exact Int.le_refl _
  · have hiq : i < q.length := by omega
    rw [ix_append_left hiq] at hA ⊢
    have h1 := h.rel i hi1 hiq v hv hA
    have hne : k ≠ v := fun e => by rw [← e] at h1; omega
    rw [hx v hv, if_neg hne, hold i hiq]; exact h1
/-- All neighbours of the node at at are met. -/
theorem InQ.next {A : Nat → Nat → Bool} {N s : Nat} {q : List Int} {at_ : Nat} {o : List Int} (h : InQ A N s q at_ o) (hat : at_ < q.length) (hall : ∀ v, v < N → A (ix q at_).toNat v = true → 0 ≤ ix o v) : InQ A N s q (at_ + 1) o :=
  ⟨h.slt, h.len, h.src, h.low, h.node, h.val, h.mem, h.par, h.cnt, h.mono, fun h2 i hi => by
    have h3 := h.last hat i hi
    have h4 := h.mono at_ (at_ + 1) (by omega) h2
    omega, fun i hi1 hi v hv hA => by
    by_cases e : i = at_
    · subst e
      have h1 := hall v hv hA
      obtain ⟨j, hj, e2⟩ := h.mem v hv h1
      have h3 := h.last hat j hj
      rw [e2, Int.toNat_natCast] at h3
      exact ⟨h1, h3⟩
    · exact h.rel i (by omega) hi v hv hA⟩

end Go.Proofs.Ytoiaibgcjfgbcaa
