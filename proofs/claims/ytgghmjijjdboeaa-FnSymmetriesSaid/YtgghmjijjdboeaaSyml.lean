/- Plain laws: the symmetries of a graph hold the identity and their products, and keep all distances; lines. -/
import Derived.Test.YtgghmjijjdboeaaSymp
import Derived.Test.YtgghmjijjdboeaaDv
import Derived.Test.YtgghmjijjdboeaaGr
set_option linter.unusedSimpArgs false
set_option linter.unusedVariables false
namespace Go.Proofs.Ytgghmjijjdboeaa
open Go Go.RowKit

theorem mem_stepsL {f : Nat → List (List Int)} {x : List Int} : ∀ {m}, x ∈ stepsL f m ↔ ∃ k, k < m ∧ x ∈ f k
  | 0 => by simp [stepsL]
  | m + 1 => by
    simp only [stepsL, List.mem_append, mem_stepsL (m := m)]
    constructor
    · rintro (⟨k, h1, h2⟩ | h)
      · exact ⟨k, by omega, h2⟩
      · exact ⟨m, by omega, h⟩
    · rintro ⟨k, h1, h2⟩
      by_cases e : k = m
      · subst e; exact .inr h2
      · exact .inl ⟨k, by omega, h2⟩
/-- What goes on from l with d more. -/
structure Going (N d : Nat) (l x : List Int) : Prop where
  len : x.length = l.length + d
  pre : x.take l.length = l
  rng : ∀ i, l.length ≤ i → i < x.length → 0 ≤ ix x i ∧ ix x i < N
  dst : ∀ i j, l.length ≤ j → i < j → j < x.length → ix x i ≠ ix x j
theorem ix_takeL {x : List Int} {m i : Nat} (h : i < m) : ix (x.take m) i = ix x i := by simp [ix, List.getD, List.getElem?_take, h]
theorem hasI_false {l : List Int} {x : Int} (h : ∀ i, i < l.length → ix l i ≠ x) : hasI l x l.length = false := anyI_false fun i hi => by rw [decide_eq_false_iff_not]; exact h i hi
theorem hasI_ne {l : List Int} {x : Int} (h : hasI l x l.length = false) {i : Nat} (hi : i < l.length) : ix l i ≠ x := by
  intro e
  rw [hasI, anyI_true hi (by rw [decide_eq_true_eq]; exact e)] at h; cases h
theorem perms_going {N : Nat} {x : List Int} : ∀ {d l}, x ∈ permsF N d l → Going N d l x
  | 0, l, h => by
    simp only [permsF, List.mem_singleton] at h
    subst h
    exact ⟨rfl, List.take_length, fun i h1 h2 => by omega, fun i j h1 h2 h3 => by omega⟩
  | d + 1, l, h => by
    rw [permsF, mem_stepsL] at h
    obtain ⟨k, hk, h⟩ := h
    split at h
    · cases h
    · rename_i hn
      have hn : hasI l (k : Int) l.length = false := by simpa using hn
      have ih := perms_going h
      have hlen := ih.len
      simp only [List.length_append, List.length_cons, List.length_nil] at hlen
      have hpre : x.take (l.length + 1) = l ++ [(k : Int)] := by have := ih.pre; simpa using this
      have hk2 : ix x l.length = k := by
        rw [← ix_takeL (m := l.length + 1) (by omega), hpre, ix_append_one]
      refine ⟨by omega, ?_, fun i h1 h2 => ?_, fun i j h1 h2 h3 => ?_⟩
      · have : (x.take (l.length + 1)).take l.length = l := by rw [hpre]; simp
        rwa [List.take_take, Nat.min_eq_left (by omega)] at this
      · by_cases e : i = l.length
        · subst e; rw [hk2]; omega
        · exact ih.rng i (by simp; omega) h2
      · by_cases e : j = l.length
        · subst e
          rw [hk2, ← ix_takeL (m := l.length + 1) (by omega), hpre, ix_append_left h2]
          exact hasI_ne hn h2
        · exact ih.dst i j (by simp; omega) h2 h3
theorem going_perms {N : Nat} {x : List Int} : ∀ {d l}, Going N d l x → x ∈ permsF N d l
  | 0, l, h => by
    simp only [permsF, List.mem_singleton]
    have h1 := h.len; have h2 := h.pre
    rw [List.take_of_length_le (by omega)] at h2
    exact h2
  | d + 1, l, h => by
    have hl := h.len
    obtain ⟨r1, r2⟩ := h.rng l.length (Nat.le_refl _) (by omega)
    obtain ⟨k, hk⟩ : ∃ k : Nat, ix x l.length = k := ⟨(ix x l.length).toNat, by omega⟩
    rw [permsF, mem_stepsL]
    have hne : hasI l (k : Int) l.length = false := hasI_false fun i hi => by
      have h1 := h.dst i l.length (Nat.le_refl _) hi (by omega)
      have h2 : ix l i = ix x i := by
        have h3 : ix (x.take l.length) i = ix x i := ix_takeL hi
        rwa [h.pre] at h3
      rw [← hk, h2]; exact h1
    refine ⟨k, by omega, ?_⟩
    rw [hne]
    refine going_perms ⟨by simp; omega, ?_, fun i h1 h2 => h.rng i (by simp at h1; omega) h2, fun i j h1 h2 h3 => h.dst i j (by simp at h1; omega) h2 h3⟩
    simp only [List.length_append, List.length_cons, List.length_nil]
    rw [List.take_succ_eq_append_getElem (by omega), h.pre]
    congr 2
    rw [← hk]; simp [ix, List.getD, show l.length < x.length by omega]
/-- A symmetry: every node once, and what is connected stays so. -/
structure Aut (xs : List Int) (n N : Nat) (p : List Int) : Prop where
  len : p.length = N
  rng : ∀ i, i < N → 0 ≤ ix p i ∧ ix p i < N
  dst : Dst p
  sym : isSym xs n p = true
theorem mem_symR {N : Int} {xs : List Int} {n : Nat} (h : symOk N xs n = true) {p : List Int} : p ∈ symR N xs n ↔ Aut xs n N.toNat p := by
  rw [← symR_perms h, symS, List.mem_filter]
  constructor
  · rintro ⟨h1, h2⟩
    have g := perms_going h1
    have hl : p.length = N.toNat := by have := g.len; simpa using this
    exact ⟨hl, fun i hi => g.rng i (Nat.zero_le _) (by omega), fun i j h1 h2 => g.dst i j (Nat.zero_le _) h1 h2, h2⟩
  · intro a
    exact ⟨going_perms ⟨by simp [a.len], by simp, fun i _ hi => a.rng i (by rw [← a.len]; exact hi), fun i j _ h1 h2 => a.dst i j h1 h2⟩, a.sym⟩
theorem symR_len (N : Int) (xs : List Int) (n : Nat) : (symR N xs n).length ≤ 1000000 := by
  rw [symR]
  split
  · rename_i hok
    simp only [symOk, Bool.and_eq_true, decide_eq_true_eq] at hok
    have hcN := cgOk_N hok.1
    have h2 := refF_le xs n N.toNat N.toNat []
    have h3 := room6 (N := N.toNat) (by omega)
    omega
  · simp
/-- The identity. -/
def idl (N : Nat) : List Int := (List.range N).map fun k : Nat => (k : Int)
@[simp] theorem idl_length (N : Nat) : (idl N).length = N := by simp [idl]
theorem ix_idl {N i : Nat} (h : i < N) : ix (idl N) i = i := by simp [ix, idl, List.getD, h]
theorem idl_succ (N : Nat) : idl (N + 1) = idl N ++ [(N : Int)] := by simp [idl, List.range_succ]
theorem stepsL_first {f : Nat → List (List Int)} {j : Nat} {a : List Int} {t : List (List Int)} (h0 : ∀ k, k < j → f k = []) (hj : f j = a :: t) : ∀ m, j < m → ∃ t', stepsL f m = a :: t'
  | 0, h => by omega
  | m + 1, h => by
    by_cases e : j = m
    · subst e
      have : ∀ q, q ≤ j → stepsL f q = [] := by
        intro q
        induction q with
        | zero => intro _; rfl
        | succ q ih => intro hq; rw [stepsL, ih (by omega), h0 q (by omega)]; rfl
      exact ⟨t, by rw [stepsL, this j (Nat.le_refl _), hj]; rfl⟩
    · obtain ⟨t', h'⟩ := stepsL_first h0 hj m (by omega)
      exact ⟨t' ++ f m, by rw [stepsL, h']; rfl⟩
theorem ref_first (xs : List Int) (n N : Nat) : ∀ d j, j + d = N → ∃ t, refF xs n N d (idl j) = idl N :: t
  | 0, j, h => ⟨[], by rw [refF, show j = N by omega]⟩
  | d + 1, j, h => by
    obtain ⟨t, ih⟩ := ref_first xs n N d (j + 1) (by omega)
    refine stepsL_first (j := j) (t := t) (fun k hk => ?_) ?_ N (by omega)
    · have : hasI (idl j) (k : Int) (idl j).length = true := anyI_true (i := k) (by simp; omega) (by rw [decide_eq_true_eq]; exact ix_idl hk)
      have hf : fitB xs n (idl j) (k : Int) = false := by rw [fitB, this]; rfl
      rw [if_neg (by rw [hf]; decide)]
    · have h1 : hasI (idl j) (j : Int) (idl j).length = false := hasI_false fun i hi => by rw [idl_length] at hi; rw [ix_idl hi]; omega
      have h2 : fitB xs n (idl j) (j : Int) = true := by
        rw [fitB, h1, Bool.not_false, Bool.true_and]
        refine allI_iff.2 fun i hi => ?_
        rw [idl_length] at hi
        rw [ix_idl hi, idl_length]; simp
      rw [if_pos h2, ← idl_succ, ih]
theorem symR_first {N : Int} {xs : List Int} {n : Nat} (h : symOk N xs n = true) : ∃ t, symR N xs n = idl N.toNat :: t := by
  rw [symR, if_pos h]
  exact ref_first xs n N.toNat N.toNat 0 (by omega)
/-- What a symmetry does to a node, as a number. -/
def P (p : List Int) (i : Nat) : Nat := (ix p i).toNat
theorem Aut.P_lt {xs : List Int} {n N : Nat} {p : List Int} (a : Aut xs n N p) {i : Nat} (h : i < N) : P p i < N := by have := a.rng i h; unfold P; omega
theorem Aut.inj {xs : List Int} {n N : Nat} {p : List Int} (a : Aut xs n N p) {i j : Nat} (hi : i < N) (hj : j < N) (h : P p i = P p j) : i = j := by
  have r1 := a.rng i hi; have r2 := a.rng j hj
  have e : ix p i = ix p j := by unfold P at h; omega
  rcases Nat.lt_trichotomy i j with h1 | h1 | h1
  · exact absurd e (a.dst i j h1 (by rw [a.len]; exact hj))
  · exact h1
  · exact absurd e.symm (a.dst j i h1 (by rw [a.len]; exact hi))
theorem Aut.keep {N : Int} {xs : List Int} {n M : Nat} {p : List Int} (a : Aut xs n M p) (he : edgesOk N xs n = true) {i k : Nat} (hi : i < M) (hk : k < M) : adjN xs n (P p i) (P p k) = adjN xs n i k := by
  have r1 := a.rng i hi; have r2 := a.rng k hk
  have e1 : ((P p i : Nat) : Int) = ix p i := by unfold P; omega
  have e2 : ((P p k : Nat) : Int) = ix p k := by unfold P; omega
  unfold adjN
  rw [e1, e2]
  have key : ∀ i k, k < i → i < M → (adj xs n i k == adj xs n (ix p i) (ix p k)) = true := by
    intro i k h1 h2
    have := a.sym
    rw [isSym] at this
    exact allI_iff.1 (allI_iff.1 this i (by rw [a.len]; exact h2)) k h1
  rcases Nat.lt_trichotomy i k with h1 | h1 | h1
  · have := key k i h1 hk
    rw [beq_iff_eq] at this
    rw [adj_comm xs n i k, adj_comm xs n (ix p i)]; exact this.symm
  · subst h1; rw [adj_self he, adj_self he]
  · have := key i k h1 hi
    rw [beq_iff_eq] at this
    exact this.symm
theorem Aut.onto {xs : List Int} {n N : Nat} {p : List Int} (a : Aut xs n N p) {u : Nat} (hu : u < N) : ∃ i, i < N ∧ P p i = u := by
  have key : ∀ m, m ≤ N → cntP (fun u => anyI (fun i => decide (P p i = u)) m) N = m := by
    intro m
    induction m with
    | zero =>
      intro _
      have : ∀ k, cntP (fun _ => false) k = 0 := fun k => by induction k with
        | zero => rfl
        | succ k ih => simp [cntP, ih]
      exact this N
    | succ m ih =>
      intro hm
      have h1 := cntP_add (p := fun u => anyI (fun i => decide (P p i = u)) m) (q := fun u => anyI (fun i => decide (P p i = u)) (m + 1)) (x := P p m) (n := N) (a.P_lt (by omega))
        (fun i hi hne => by simp only [anyI]; rw [decide_eq_false (show ¬ P p m = i from fun e => hne e.symm), Bool.or_false])
        (anyI_false fun i hi => by rw [decide_eq_false_iff_not]; intro e; have := a.inj (by omega) (by omega) e; omega)
        (by simp [anyI])
      rw [h1, ih (by omega)]
  have hN := key N (Nat.le_refl _)
  cases hx : anyI (fun i => decide (P p i = u)) N with
  | true => obtain ⟨i, h1, h2⟩ := anyI_iff.1 hx; exact ⟨i, h1, of_decide_eq_true h2⟩
  | false =>
    have := cntP_lt (p := fun u => anyI (fun i => decide (P p i = u)) N) (q := fun _ => true) (n := N) (fun _ _ _ => rfl) ⟨u, hu, hx, rfl⟩
    have h2 := cntP_le (fun _ => true) N
    omega
/-- Symmetries keep all distances. -/
theorem Aut.dist {N : Int} {xs : List Int} {n M : Nat} {p : List Int} (a : Aut xs n M p) (he : edgesOk N xs n = true) {v u : Nat} (hv : v < M) (hu : u < M) :
    ix (distL xs n M (P p v)) (P p u) = ix (distL xs n M v) u := by
  have d1 := distL_is (xs := xs) (n := n) (N := M) (s := v) hv
  have d2 := distL_is (xs := xs) (n := n) (N := M) (s := P p v) (a.P_lt hv)
  have k1 : ∀ (d u : Nat), u < M → ix (distL xs n M v) u = d → 0 ≤ ix (distL xs n M (P p v)) (P p u) ∧ ix (distL xs n M (P p v)) (P p u) ≤ d := by
    intro d
    induction d with
    | zero =>
      intro u hu e
      rcases d1.par u hu (by omega) with rfl | ⟨w, hw, hA, h1, h2⟩
      · rw [d2.src]; omega
      · omega
    | succ d ih =>
      intro u hu e
      rcases d1.par u hu (by omega) with rfl | ⟨w, hw, hA, h1, h2⟩
      · have := d1.src; omega
      · have h3 := ih w hw (by omega)
        have h4 := d2.rel (P p w) (a.P_lt hw) (P p u) (a.P_lt hu) h3.1 (by rw [a.keep he hw hu]; exact hA)
        omega
  have k2 : ∀ (d u : Nat), u < M → ix (distL xs n M (P p v)) (P p u) = d → 0 ≤ ix (distL xs n M v) u ∧ ix (distL xs n M v) u ≤ d := by
    intro d
    induction d with
    | zero =>
      intro u hu e
      rcases d2.par (P p u) (a.P_lt hu) (by omega) with h0 | ⟨w, hw, hA, h1, h2⟩
      · rw [a.inj hu hv h0, d1.src]; omega
      · omega
    | succ d ih =>
      intro u hu e
      rcases d2.par (P p u) (a.P_lt hu) (by omega) with h0 | ⟨w, hw, hA, h1, h2⟩
      · rw [a.inj hu hv h0, d1.src]; omega
      · obtain ⟨q, hq, rfl⟩ := a.onto hw
        have h3 := ih q hq (by omega)
        have h4 := d1.rel q hq u hu h3.1 (by rw [← a.keep he hq hu]; exact hA)
        omega
  have l1 := d1.low u hu
  have l2 := d2.low (P p u) (a.P_lt hu)
  by_cases h : 0 ≤ ix (distL xs n M v) u
  · have h1 := k1 (ix (distL xs n M v) u).toNat u hu (by omega)
    have h2 := k2 (ix (distL xs n M (P p v)) (P p u)).toNat u hu (by omega)
    omega
  · by_cases h' : 0 ≤ ix (distL xs n M (P p v)) (P p u)
    · have h2 := k2 (ix (distL xs n M (P p v)) (P p u)).toNat u hu (by omega)
      omega
    · omega
/-- The product of a symmetry with itself, of its first j nodes. -/
def sqL (p : List Int) (j : Nat) : List Int := (List.range j).map fun v => ix p (P p v)
@[simp] theorem sqL_length (p : List Int) (j : Nat) : (sqL p j).length = j := by simp [sqL]
theorem ix_sqL {p : List Int} {j i : Nat} (h : i < j) : ix (sqL p j) i = ix p (P p i) := by simp [ix, sqL, List.getD, h]
theorem Aut.sq {N : Int} {xs : List Int} {n M : Nat} {p : List Int} (a : Aut xs n M p) (he : edgesOk N xs n = true) : Aut xs n M (sqL p M) := by
  refine ⟨by simp, fun i hi => ?_, fun i j hij hj => ?_, ?_⟩
  · rw [ix_sqL hi]; exact a.rng _ (a.P_lt hi)
  · rw [sqL_length] at hj
    rw [ix_sqL (by omega), ix_sqL hj]
    intro e
    have h1 := a.inj (a.P_lt (show i < M by omega)) (a.P_lt hj) (by unfold P at *; rw [e])
    have h2 := a.inj (by omega) hj h1
    omega
  · rw [isSym, sqL_length]
    refine allI_iff.2 fun i hi => allI_iff.2 fun k hk => ?_
    rw [ix_sqL hi, ix_sqL (by omega), beq_iff_eq]
    have h1 := a.keep he hi (show k < M by omega)
    have h2 := a.keep he (a.P_lt hi) (a.P_lt (show k < M by omega))
    have r1 := a.rng _ (a.P_lt hi); have r2 := a.rng _ (a.P_lt (show k < M by omega))
    unfold adjN at h1 h2
    rw [show ((P p (P p i) : Nat) : Int) = ix p (P p i) by unfold P at *; omega, show ((P p (P p k) : Nat) : Int) = ix p (P p k) by unfold P at *; omega] at h2
    rw [h2, h1]
/-! ### Lines -/
def absL (N s : Nat) : List Int := (List.range N).map fun v => if v ≤ s then (s : Int) - v else (v : Int) - s
theorem ix_absL {N s v : Nat} (h : v < N) : ix (absL N s) v = if v ≤ s then (s : Int) - v else (v : Int) - s := by simp [ix, absL, List.getD, h]
theorem line_adj : ∀ N : Nat, N < 9 → ∀ a : Nat, a < N → ∀ b : Nat, b < N → adjN (fl2 (gridE 1 (N : Int))) (gridE 1 (N : Int)).length a b = (a + 1 == b || b + 1 == a) := by decide +kernel
theorem line_dist {N s : Nat} (hN : N < 9) (hs : s < N) : distL (fl2 (gridE 1 (N : Int))) (gridE 1 (N : Int)).length N s = absL N s := by
  refine distL_eq ⟨by simp [absL], by rw [ix_absL hs]; simp, fun v hv => by rw [ix_absL hv]; split <;> omega, fun v hv h0 => ?_, fun u hu v hv h0 hA => ?_⟩
  · by_cases e : v = s
    · exact .inl e
    · refine .inr ?_
      by_cases h : v < s
      · refine ⟨v + 1, by omega, by rw [line_adj N hN _ (by omega) _ hv]; simp, ?_⟩
        rw [ix_absL (by omega), ix_absL hv, if_pos (by omega), if_pos (by omega)]; omega
      · refine ⟨v - 1, by omega, by rw [line_adj N hN _ (by omega) _ hv]; simp; omega, ?_⟩
        rw [ix_absL (by omega), ix_absL hv, if_neg (show ¬ v ≤ s by omega)]
        split <;> omega
  · rw [line_adj N hN u hu v hv] at hA
    simp only [Bool.or_eq_true, beq_iff_eq] at hA
    rw [ix_absL hv, ix_absL hu]
    split <;> split <;> omega
theorem mxA_congr {D D' : Nat → List Int} (n : Nat) : ∀ k, (∀ s, s < k → D s = D' s) → mxA D n k = mxA D' n k
  | 0, _ => rfl
  | k + 1, h => by rw [mxA, mxA, mxA_congr n k fun s hs => h s (by omega), h k (by omega)]
theorem line_cg : ∀ N : Nat, N < 9 → 1 ≤ N → cgOk (N : Int) (fl2 (gridE 1 (N : Int))) (gridE 1 (N : Int)).length = true := by decide +kernel
theorem line_mx : ∀ N : Nat, N < 9 → 1 ≤ N → mxA (absL N) N N = (N : Int) - 1 := by decide +kernel
theorem line_neg : ∀ N : Nat, N < 9 → ∀ s : Nat, s < N → negO (absL N s) N = false := by decide +kernel
theorem line_N {k : Int} (h : gridOk 1 k = true) : ∃ N : Nat, N < 9 ∧ 1 ≤ N ∧ k = N ∧ gridN 1 k = N := by
  obtain ⟨_, h2, _⟩ := gridOk_iff.1 h
  exact ⟨k.toNat, by omega, by omega, by omega, by rw [gridN, if_pos h]; omega⟩
/-- What the law asks of a line. -/
theorem line_cgOk {k : Int} (h : gridOk 1 k = true) : cgOk (gridN 1 k) (fl2 (gridE 1 k)) (gridE 1 k).length = true := by
  obtain ⟨N, h1, h2, rfl, h3⟩ := line_N h
  rw [h3]; exact line_cg N h1 h2
theorem line_di {k : Int} (h : gridOk 1 k = true) : diOk (gridN 1 k) (fl2 (gridE 1 k)) (gridE 1 k).length (distL (fl2 (gridE 1 k)) (gridE 1 k).length (gridN 1 k).toNat) = true := by
  have hc := line_cgOk h
  obtain ⟨N, h1, h2, rfl, h3⟩ := line_N h
  rw [h3] at hc ⊢
  rw [diOk, hc, Int.toNat_natCast, anyI_false]; rfl
  intro s hs
  rw [line_dist h1 hs]; exact line_neg N h1 s hs
theorem line_dv {k : Int} (h : gridOk 1 k = true) : diV (gridN 1 k) (fl2 (gridE 1 k)) (gridE 1 k).length (distL (fl2 (gridE 1 k)) (gridE 1 k).length (gridN 1 k).toNat) = k - 1 := by
  rw [diV, if_pos (line_di h)]
  obtain ⟨N, h1, h2, rfl, h3⟩ := line_N h
  rw [h3, Int.toNat_natCast, mxA_congr N N fun s hs => line_dist h1 hs]
  exact line_mx N h1 h2

end Go.Proofs.Ytgghmjijjdboeaa
