/- Plain laws: the components of a graph. -/
import Derived.Test.YtekikmdjldincaaDs
import Derived.Test.YtekikmdjldincaaGs
set_option linter.unusedSimpArgs false
set_option linter.unusedVariables false
namespace Go.Proofs.Ytekikmdjldincaa
open Go Go.RowKit

theorem round_ex {A : Nat → Nat → Bool} {N d : Nat} {o0 : List Int} (hl : o0.length = N) : ∀ i, i ≤ N → ∃ o, InRound A N d i 0 o0 o
  | 0, _ => ⟨o0, InRound.start hl⟩
  | i + 1, hi => by
    obtain ⟨o1, h1⟩ := round_ex (A := A) (d := d) hl i (by omega)
    have : ∀ k, k ≤ N → ∃ o, InRound A N d i k o0 o := by
      intro k
      induction k with
      | zero => intro _; exact ⟨o1, h1⟩
      | succ k ih =>
        intro hk
        obtain ⟨o, h⟩ := ih (by omega)
        by_cases hc : ix o0 i = d ∧ A i k = true ∧ ix o k < 0
        · exact ⟨_, h.set (by omega) (by omega) hc.1 hc.2.1 hc.2.2⟩
        · refine ⟨o, h.keep fun h1 h2 => ?_⟩
          have : ¬ ix o k < 0 := fun h3 => hc ⟨h1, h2, h3⟩
          omega
    obtain ⟨o, h⟩ := this N (Nat.le_refl _)
    exact ⟨o, h.next⟩
theorem lev_ex {A : Nat → Nat → Bool} {N s : Nat} (hs : s < N) : ∀ d, ∃ o, IsLev A N s d o
  | 0 => ⟨_, IsLev.start hs⟩
  | d + 1 => by
    obtain ⟨o0, h0⟩ := lev_ex (A := A) hs d
    obtain ⟨o, h⟩ := round_ex (A := A) (d := d) h0.len N (Nat.le_refl _)
    exact ⟨o, h.lev h0 hs⟩
/-- There is a list of distances. -/
theorem distL_is {xs : List Int} {n N s : Nat} (hs : s < N) : IsDist (adjN xs n) N s (distL xs n N s) := by
  obtain ⟨o, h⟩ := lev_ex (A := adjN xs n) hs N
  exact Classical.epsilon_spec (p := IsDist (adjN xs n) N s) ⟨o, h.dist hs⟩
/-- Node v is reached from node i. -/
noncomputable def rch (xs : List Int) (n N i v : Nat) : Bool := decide (0 ≤ ix (distL xs n N i) v)
theorem adjN_comm (xs : List Int) (n a b : Nat) : adjN xs n a b = adjN xs n b a := by simp only [adjN]; exact adj_comm _ _ _ _
theorem rch_self {xs : List Int} {n N s : Nat} (hs : s < N) : rch xs n N s s = true := by
  rw [rch, (distL_is hs).src]; rfl
theorem rch_step {xs : List Int} {n N s u v : Nat} (hs : s < N) (hu : u < N) (hv : v < N) (h : rch xs n N s u = true) (ha : adjN xs n u v = true) : rch xs n N s v = true := by
  rw [rch, decide_eq_true_eq] at h ⊢
  exact ((distL_is hs).rel u hu v hv h ha).1
theorem rch_ind {xs : List Int} {n N s : Nat} (hs : s < N) (p : Nat → Prop) (h0 : p s) (h1 : ∀ u v, u < N → v < N → p u → adjN xs n u v = true → p v) {v : Nat} (hv : v < N) (h : rch xs n N s v = true) : p v := by
  have key : ∀ (d : Nat) (v : Nat), v < N → ix (distL xs n N s) v = d → p v := by
    intro d
    induction d with
    | zero =>
      intro v hv e
      rcases (distL_is (xs := xs) (n := n) hs).par v hv (by omega) with rfl | ⟨u, hu, ha, h2, h3⟩
      · exact h0
      · omega
    | succ d ih =>
      intro v hv e
      rcases (distL_is (xs := xs) (n := n) hs).par v hv (by omega) with rfl | ⟨u, hu, ha, h2, h3⟩
      · exact h0
      · exact h1 u v hu hv (ih u hu (by omega)) ha
  rw [rch, decide_eq_true_eq] at h
  exact key (ix (distL xs n N s) v).toNat v hv (by omega)
theorem rch_trans {xs : List Int} {n N a b c : Nat} (ha : a < N) (hb : b < N) (hc : c < N) (h1 : rch xs n N a b = true) (h2 : rch xs n N b c = true) : rch xs n N a c = true :=
  rch_ind (s := b) hb (fun v => rch xs n N a v = true) h1 (fun u v hu hv hp hA => rch_step ha hu hv hp hA) hc h2
theorem rch_symm {xs : List Int} {n N a b : Nat} (ha : a < N) (hb : b < N) (h : rch xs n N a b = true) : rch xs n N b a = true := by
  refine rch_ind (s := a) ha (fun v => v < N → rch xs n N v a = true) (fun h => rch_self h) (fun u v hu hv hp hA _ => ?_) hb h hb
  refine rch_trans hv hu ha ?_ (hp hu)
  exact rch_step hv hv hu (rch_self hv) (by rw [adjN_comm]; exact hA)
/-- The component of node i. -/
noncomputable def compL (xs : List Int) (n N i : Nat) : List Int := filterL (rch xs n N i) N
/-- No node before i reaches it. -/
noncomputable def frst (xs : List Int) (n N i : Nat) : Bool := !anyI (fun j => rch xs n N j i) i
noncomputable def compsL (xs : List Int) (n N : Nat) : Nat → List (List Int)
  | 0 => []
  | k + 1 => compsL xs n N k ++ (if frst xs n N k then [compL xs n N k] else [])
theorem compsL_len (xs : List Int) (n N : Nat) : ∀ k, (compsL xs n N k).length ≤ k
  | 0 => Nat.le_refl _
  | k + 1 => by
    have := compsL_len xs n N k
    simp only [compsL, List.length_append]
    split <;> simp only [List.length_cons, List.length_nil] <;> omega
theorem mem_filterL {p : Nat → Bool} {N : Nat} {x : Int} : x ∈ filterL p N ↔ ∃ v : Nat, v < N ∧ p v = true ∧ x = v := by
  induction N with
  | zero => simp [filterL]
  | succ N ih =>
    simp only [filterL, List.mem_append, ih]
    constructor
    · rintro (⟨v, h1, h2, h3⟩ | h)
      · exact ⟨v, by omega, h2, h3⟩
      · split at h
        · rename_i hp; simp only [List.mem_singleton] at h; exact ⟨N, by omega, hp, h⟩
        · cases h
    · rintro ⟨v, h1, h2, rfl⟩
      by_cases e : v = N
      · subst e; right; rw [h2]; simp
      · left; exact ⟨v, by omega, h2, rfl⟩
theorem mem_compsL {xs : List Int} {n N : Nat} {x : Int} : ∀ {k}, x ∈ (compsL xs n N k).flatten ↔ ∃ j, j < k ∧ frst xs n N j = true ∧ x ∈ compL xs n N j
  | 0 => by simp [compsL]
  | k + 1 => by
    simp only [compsL, List.flatten_append, List.mem_append, mem_compsL (k := k)]
    constructor
    · rintro (⟨j, h1, h2, h3⟩ | h)
      · exact ⟨j, by omega, h2, h3⟩
      · split at h
        · rename_i hf; simp only [List.flatten_cons, List.flatten_nil, List.append_nil] at h; exact ⟨k, by omega, hf, h⟩
        · simp at h
    · rintro ⟨j, h1, h2, h3⟩
      by_cases e : j = k
      · subst e; right; rw [h2]; simpa using h3
      · left; exact ⟨j, by omega, h2, h3⟩
theorem least_nat {p : Nat → Prop} {n : Nat} (h : p n) : ∃ m, m ≤ n ∧ p m ∧ ∀ i, i < m → ¬ p i := by
  obtain ⟨m, h1, h2⟩ := least_ex ⟨n, h⟩
  exact ⟨m, h2 n h, h1, fun i hi hp => by have := h2 i hp; omega⟩
theorem frst_false {xs : List Int} {n N k : Nat} (hk : k < N) : frst xs n N k = false ↔ ∃ j, j < k ∧ rch xs n N j k = true := by
  simp only [frst, Bool.not_eq_false', anyI_iff]
/-- The program's question: has the node been met. -/
theorem met_frst {xs : List Int} {n N k : Nat} (hk : k < N) : ((k : Int) ∈ (compsL xs n N k).flatten) ↔ frst xs n N k = false := by
  rw [frst_false hk, mem_compsL]
  constructor
  · rintro ⟨j, h1, h2, h3⟩
    obtain ⟨v, h4, h5, h6⟩ := mem_filterL.1 h3
    obtain rfl : k = v := by omega
    exact ⟨j, h1, h5⟩
  · rintro ⟨j, h1, h2⟩
    obtain ⟨i, h3, h4, h5⟩ := least_nat (p := fun i => rch xs n N i k = true) h2
    refine ⟨i, by omega, ?_, mem_filterL.2 ⟨k, hk, h4, rfl⟩⟩
    cases hf : frst xs n N i with
    | true => rfl
    | false =>
      obtain ⟨q, h6, h7⟩ := (frst_false (show i < N by omega)).1 hf
      exact absurd (rch_trans (by omega) (by omega) hk h7 h4) (h5 q h6)
theorem filterL_none {p : Nat → Bool} {N : Nat} (h : ∀ i, i < N → p i = false) : filterL p N = [] := by
  induction N with
  | zero => rfl
  | succ N ih => simp only [filterL]; rw [ih fun i hi => h i (by omega), h N (by omega)]; rfl
theorem filterL_head {p : Nat → Bool} {N u : Nat} (hu : u < N) (hp : p u = true) (hl : ∀ i, i < u → p i = false) : ix (filterL p N) 0 = u := by
  induction N with
  | zero => omega
  | succ N ih =>
    simp only [filterL]
    by_cases e : u = N
    · subst e; rw [filterL_none hl, hp]; rfl
    · obtain ⟨i, h1, _⟩ := filterL_mem (p := p) (N := N) (v := u) (by omega) hp
      rw [ix_append_left (by omega)]; exact ih (by omega)
/-- The reference's question: is the node the first of its component. -/
theorem head_frst {xs : List Int} {n N k : Nat} (hk : k < N) : decide (ix (compL xs n N k) 0 = (k : Int)) = frst xs n N k := by
  obtain ⟨u, h1, h2, h3⟩ := least_nat (p := fun v => rch xs n N k v = true) (rch_self hk)
  have hh : ix (compL xs n N k) 0 = u := filterL_head (by omega) h2 fun i hi => by
    have := h3 i hi
    simpa using this
  rw [hh]
  cases hf : frst xs n N k with
  | true =>
    rw [decide_eq_true_eq]
    by_cases e : u = k
    · omega
    · exfalso
      have : frst xs n N k = false := (frst_false hk).2 ⟨u, by omega, rch_symm hk (by omega) h2⟩
      rw [hf] at this; cases this
  | false =>
    obtain ⟨j, h4, h5⟩ := (frst_false hk).1 hf
    rw [decide_eq_false_iff_not]
    intro e
    exact h3 j (by omega) (rch_symm (by omega) hk h5)
theorem compL_pos {xs : List Int} {n N k : Nat} (hk : k < N) : 0 < (compL xs n N k).length := by
  obtain ⟨i, h1, _⟩ := filterL_mem (p := rch xs n N k) hk (rch_self hk)
  unfold compL; omega
theorem hasI_mem {xs : List Int} {x : Int} : hasI xs x xs.length = decide (x ∈ xs) := by
  rw [Bool.eq_iff_iff, decide_eq_true_iff, hasI, anyI_iff]
  constructor
  · rintro ⟨i, h1, h2⟩
    rw [decide_eq_true_eq] at h2; rw [← h2]; exact ix_mem h1
  · intro h
    obtain ⟨i, h1, h2⟩ := List.getElem_of_mem h
    exact ⟨i, h1, by rw [decide_eq_true_eq, ← h2]; simp [ix, List.getD, h1]⟩
theorem met_has {xs : List Int} {n N k : Nat} (hk : k < N) : hasI (compsL xs n N k).flatten k (compsL xs n N k).flatten.length = !frst xs n N k := by
  rw [hasI_mem]
  cases hf : frst xs n N k with
  | true => rw [decide_eq_false_iff_not.2]; rfl; rw [met_frst hk, hf]; decide
  | false => rw [decide_eq_true_iff.2]; rfl; rw [met_frst hk, hf]
theorem flat_le {N : Nat} : ∀ {l : List (List Int)}, (∀ x ∈ l, x.length ≤ N) → l.flatten.length ≤ l.length * N
  | [], _ => by simp
  | a :: l, h => by
    have h1 := h a (by simp)
    have h2 := flat_le (l := l) fun x hx => h x (by simp [hx])
    simp only [List.flatten_cons, List.length_append, List.length_cons]
    rw [Nat.add_mul]; omega
theorem compsL_le {xs : List Int} {n N : Nat} : ∀ {k}, ∀ x ∈ compsL xs n N k, x.length ≤ N
  | 0, x, h => by simp [compsL] at h
  | k + 1, x, h => by
    simp only [compsL, List.mem_append] at h
    rcases h with h | h
    · exact compsL_le x h
    · split at h
      · simp only [List.mem_singleton] at h; subst h; exact filterL_le _ _
      · cases h
noncomputable def compR (N : Int) (xs : List Int) (n : Nat) : List (List Int) := if cgOk N xs n then compsL xs n N.toNat N.toNat else []

end Go.Proofs.Ytekikmdjldincaa
