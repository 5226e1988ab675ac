/- Plain laws: the reference's rank; additions of rows lead from the identity to every map of full rank. -/
import Derived.Test.YteehfidjofcfmaaGf
import Derived.Test.YteehfidjofcfmaaEl
set_option linter.unusedSimpArgs false
set_option linter.unusedVariables false
namespace Go.Proofs.Yteehfidjofcfmaa
open Go Go.RowKit

/-- Row e.1 is added to row e.2. -/
def cx (l : List Nat) (e : Nat × Nat) : List Nat := l.set e.2 (nx l e.2 ^^^ nx l e.1)
@[simp] theorem cx_length (l : List Nat) (e : Nat × Nat) : (cx l e).length = l.length := by simp [cx]
def cxs (l : List Nat) (w : List (Nat × Nat)) : List Nat := w.foldl cx l
theorem cxs_append (l : List Nat) (w v : List (Nat × Nat)) : cxs l (w ++ v) = cxs (cxs l w) v := List.foldl_append ..
theorem cxs_length : ∀ (w : List (Nat × Nat)) (l : List Nat), (cxs l w).length = l.length
  | [], _ => rfl
  | e :: w, l => by show (cxs (cx l e) w).length = _; rw [cxs_length w, cx_length]
/-- Additions of different rows among n. -/
def WOk (n : Nat) (w : List (Nat × Nat)) : Prop := ∀ e ∈ w, e.1 < n ∧ e.2 < n ∧ e.1 ≠ e.2
theorem nx_cx {l : List Nat} {e : Nat × Nat} {k : Nat} (h : k < l.length) : nx (cx l e) k = if e.2 = k then nx l k ^^^ nx l e.1 else nx l k := by
  rw [cx, nx_set h]
  split
  · rename_i h2; rw [h2]
  · rfl
theorem cx_cx {l : List Nat} {e : Nat × Nat} (h1 : e.1 < l.length) (h3 : e.1 ≠ e.2) : cx (cx l e) e = l := by
  refine list_ext_nx (by simp) fun k hk => ?_
  have hk' : k < l.length := by simpa using hk
  rw [nx_cx (by simpa using hk'), nx_cx hk', nx_cx h1, if_neg (Ne.symm h3)]
  split
  · rw [Nat.xor_assoc, Nat.xor_self, Nat.xor_zero]
  · rfl
/-- One list of rows leads to another by at most k additions. -/
def Reach (n k : Nat) (l l' : List Nat) : Prop := ∃ w, WOk n w ∧ w.length ≤ k ∧ cxs l w = l'
theorem Reach.refl {n k : Nat} {l : List Nat} : Reach n k l l := ⟨[], fun _ h => (by cases h), Nat.zero_le _, rfl⟩
theorem Reach.trans {n k m : Nat} {a b c : List Nat} (h : Reach n k a b) (h' : Reach n m b c) : Reach n (k + m) a c := by
  obtain ⟨w, h1, h2, h3⟩ := h
  obtain ⟨v, g1, g2, g3⟩ := h'
  refine ⟨w ++ v, fun e he => ?_, by simp; omega, by rw [cxs_append, h3, g3]⟩
  rcases List.mem_append.1 he with he | he
  · exact h1 e he
  · exact g1 e he
theorem Reach.mono {n k m : Nat} {a b : List Nat} (h : Reach n k a b) (hm : k ≤ m) : Reach n m a b := by
  obtain ⟨w, h1, h2, h3⟩ := h
  exact ⟨w, h1, by omega, h3⟩
theorem Reach.one {n : Nat} {l : List Nat} {a b : Nat} (ha : a < n) (hb : b < n) (hab : a ≠ b) : Reach n 1 l (cx l (a, b)) :=
  ⟨[(a, b)], fun e he => by simp only [List.mem_singleton] at he; subst he; exact ⟨ha, hb, hab⟩, by simp, rfl⟩
theorem cxs_back {n : Nat} : ∀ (w : List (Nat × Nat)) (l : List Nat), l.length = n → WOk n w → cxs (cxs l w) w.reverse = l
  | [], _, _, _ => rfl
  | e :: w, l, hl, h => by
    have he := h e (by simp)
    have ih := cxs_back w (cx l e) (by simpa using hl) fun x hx => h x (by simp [hx])
    rw [List.reverse_cons, cxs_append]
    show cx (cxs (cxs (cx l e) w) w.reverse) e = l
    rw [ih, cx_cx (by omega) he.2.2]
theorem Reach.symm {n k : Nat} {a b : List Nat} (ha : a.length = n) (h : Reach n k a b) : Reach n k b a := by
  obtain ⟨w, h1, h2, rfl⟩ := h
  exact ⟨w.reverse, fun e he => h1 e (by simpa using he), by simpa using h2, cxs_back w a ha h1⟩
theorem Reach.len {n k : Nat} {a b : List Nat} (h : Reach n k a b) : b.length = a.length := by
  obtain ⟨w, _, _, rfl⟩ := h
  exact cxs_length w a

/-! ### The reference's rank -/
def atR (b n : Nat) (q : List Nat × Nat) : Nat := scanR (fun i => (nx q.1 i).testBit b) q.2 (n - q.2)
def swp (l : List Nat) (i k : Nat) : List Nat := (l.set i (nx l k)).set k (nx l i)
@[simp] theorem swp_length (l : List Nat) (i k : Nat) : (swp l i k).length = l.length := by simp [swp]
def clrN (b rk x : Nat) (l : List Nat) : Nat → List Nat
  | 0 => l
  | i + 1 => if i ≠ rk ∧ (nx (clrN b rk x l i) i).testBit b = true then (clrN b rk x l i).set i (nx (clrN b rk x l i) i ^^^ x) else clrN b rk x l i
@[simp] theorem clrN_length (b rk x : Nat) (l : List Nat) : ∀ i, (clrN b rk x l i).length = l.length
  | 0 => rfl
  | i + 1 => by simp only [clrN]; split <;> simp [clrN_length b rk x l i]
def rstep (n b : Nat) (q : List Nat × Nat) : List Nat × Nat :=
  if atR b n q = n then q else (clrN b q.2 (nx q.1 (atR b n q)) (swp q.1 (atR b n q) q.2) n, q.2 + 1)
def rkR (n : Nat) (l : List Nat) : Nat → List Nat × Nat
  | 0 => (l, 0)
  | b + 1 => rstep n b (rkR n l b)
theorem scanR_spec {p : Nat → Bool} {n : Nat} : ∀ (m i : Nat), i + m = n → (scanR p i m = n ∧ ∀ k, i ≤ k → k < n → p k = false) ∨ (i ≤ scanR p i m ∧ scanR p i m < n ∧ p (scanR p i m) = true)
  | 0, i, h => .inl ⟨by simp only [scanR]; omega, fun k h1 h2 => by omega⟩
  | m + 1, i, h => by
    simp only [scanR]
    cases hp : p i with
    | true => rw [if_pos rfl]; exact .inr ⟨Nat.le_refl _, by omega, hp⟩
    | false =>
      rw [if_neg (by decide)]
      rcases scanR_spec (p := p) (n := n) m (i + 1) (by omega) with ⟨h1, h2⟩ | ⟨h1, h2, h3⟩
      · refine .inl ⟨h1, fun k hk hk2 => ?_⟩
        by_cases e : k = i
        · rw [e]; exact hp
        · exact h2 k (by omega) hk2
      · exact .inr ⟨by omega, h2, h3⟩
theorem nx_swp {l : List Nat} {i k j : Nat} (hi : i < l.length) (hj : j < l.length) : nx (swp l i k) j = if k = j then nx l i else if i = j then nx l k else nx l j := by
  rw [swp, nx_set (by simpa using hj), nx_set hj]
theorem nx_clrN {b rk x : Nat} {l : List Nat} : ∀ {m i : Nat}, i < l.length → nx (clrN b rk x l m) i = if i < m ∧ i ≠ rk ∧ (nx l i).testBit b = true then nx l i ^^^ x else nx l i
  | 0, i, _ => by simp [clrN]
  | m + 1, i, hi => by
    have ih := @nx_clrN b rk x l m
    simp only [clrN]
    by_cases hm : m < l.length
    · have hmm := ih hm
      rw [if_neg (fun h3 => absurd h3.1 (Nat.lt_irrefl _))] at hmm
      rw [hmm]
      by_cases hc : m ≠ rk ∧ (nx l m).testBit b = true
      · rw [if_pos hc, nx_set (by simpa using hi)]
        by_cases e : m = i
        · subst e; rw [if_pos rfl, if_pos ⟨by omega, hc⟩]
        · rw [if_neg e, ih hi]
          by_cases h2 : i < m ∧ i ≠ rk ∧ (nx l i).testBit b = true
          · rw [if_pos h2, if_pos ⟨by omega, h2.2⟩]
          · rw [if_neg h2, if_neg fun h3 => h2 ⟨by omega, h3.2⟩]
      · rw [if_neg hc, ih hi]
        by_cases h2 : i < m ∧ i ≠ rk ∧ (nx l i).testBit b = true
        · rw [if_pos h2, if_pos ⟨by omega, h2.2⟩]
        · rw [if_neg h2]
          by_cases e : m = i
          · subst e; rw [if_neg fun h3 => hc h3.2]
          · rw [if_neg fun h3 => h2 ⟨by omega, h3.2⟩]
    · have : nx (clrN b rk x l m) m = 0 := nx_ge (by simp; omega)
      rw [this, if_neg (by simp), ih hi]
      by_cases h2 : i < m ∧ i ≠ rk ∧ (nx l i).testBit b = true
      · rw [if_pos h2, if_pos ⟨by omega, h2.2⟩]
      · rw [if_neg h2, if_neg fun h3 => h2 ⟨by omega, h3.2⟩]
theorem rstep_length (n b : Nat) (q : List Nat × Nat) : (rstep n b q).1.length = q.1.length := by
  unfold rstep; split <;> simp
theorem rkR_length (n : Nat) (l : List Nat) : ∀ b, (rkR n l b).1.length = l.length
  | 0 => rfl
  | b + 1 => by rw [rkR, rstep_length, rkR_length n l b]
/-- Where the elimination stands before bit b. -/
structure Piv (n b : Nat) (q : List Nat × Nat) (p : Nat → Nat) : Prop where
  le : q.2 ≤ n
  low : ∀ i, i < q.2 → p i < b
  inc : ∀ i j, i < j → j < q.2 → p i < p j
  one : ∀ i, i < q.2 → ∀ k, k < n → (nx q.1 k).testBit (p i) = decide (k = i)
  zero : ∀ k, q.2 ≤ k → k < n → ∀ j, j < b → (nx q.1 k).testBit j = false
theorem Piv.start {n : Nat} {l : List Nat} : Piv n 0 (l, 0) (fun _ => 0) := ⟨Nat.zero_le _, fun _ h => (by cases h), fun _ _ _ h => (by cases h), fun _ h => (by cases h), fun _ _ _ _ h => (by omega)⟩
/-- What a step does. -/
theorem rstep_at {n b : Nat} {q : List Nat × Nat} (hl : q.1.length = n) (hq : q.2 ≤ n) : (atR b n q = n ∧ (∀ k, q.2 ≤ k → k < n → (nx q.1 k).testBit b = false)) ∨ (q.2 ≤ atR b n q ∧ atR b n q < n ∧ (nx q.1 (atR b n q)).testBit b = true) :=
  scanR_spec (p := fun i => (nx q.1 i).testBit b) (n - q.2) q.2 (by omega)
theorem nx_rstep {n b : Nat} {q : List Nat × Nat} (hl : q.1.length = n) (h : q.2 ≤ atR b n q) (h1 : atR b n q < n) {k : Nat} (hk : k < n) :
    nx (clrN b q.2 (nx q.1 (atR b n q)) (swp q.1 (atR b n q) q.2) n) k =
      if k = q.2 then nx q.1 (atR b n q) else
        if (if atR b n q = k then nx q.1 q.2 else nx q.1 k).testBit b = true then (if atR b n q = k then nx q.1 q.2 else nx q.1 k) ^^^ nx q.1 (atR b n q) else (if atR b n q = k then nx q.1 q.2 else nx q.1 k) := by
  rw [nx_clrN (by simp; omega), nx_swp (by omega) (by omega)]
  by_cases e : k = q.2
  · rw [if_pos e, if_pos e.symm, if_neg fun h3 => h3.2.1 e]
  · rw [if_neg e, if_neg (Ne.symm e)]
    by_cases h2 : (if atR b n q = k then nx q.1 q.2 else nx q.1 k).testBit b = true
    · rw [if_pos h2, if_pos ⟨hk, e, h2⟩]
    · rw [if_neg h2, if_neg fun h3 => h2 h3.2.2]
theorem Piv.step {n b : Nat} {q : List Nat × Nat} {p : Nat → Nat} (hl : q.1.length = n) (h : Piv n b q p) : ∃ p', Piv n (b + 1) (rstep n b q) p' := by
  rcases rstep_at (b := b) hl h.le with ⟨h1, h2⟩ | ⟨h1, h2, h3⟩
  · refine ⟨p, ?_⟩
    rw [rstep, if_pos h1]
    refine ⟨h.le, fun i hi => by have := h.low i hi; omega, h.inc, h.one, fun k hk hkn j hj => ?_⟩
    by_cases e : j = b
    · rw [e]; exact h2 k hk hkn
    · exact h.zero k hk hkn j (by omega)
  · refine ⟨fun i => if i = q.2 then b else p i, ?_⟩
    rw [rstep, if_neg (by omega)]
    have ho : ∀ k, k < n → k ≠ q.2 → ∀ j, j < b → (if atR b n q = k then nx q.1 q.2 else nx q.1 k).testBit j = (nx q.1 k).testBit j := by
      intro k hk hne j hj
      split
      · rename_i e
        rw [h.zero q.2 (Nat.le_refl _) (by omega) j hj, h.zero k (by omega) hk j hj]
      · rfl
    have hbit : ∀ k, k < n → (nx (clrN b q.2 (nx q.1 (atR b n q)) (swp q.1 (atR b n q) q.2) n) k).testBit b = decide (k = q.2) := by
      intro k hk
      rw [nx_rstep hl h1 h2 hk]
      by_cases e : k = q.2
      · rw [if_pos e, h3]; simp [e]
      · rw [if_neg e]
        cases hc : (if atR b n q = k then nx q.1 q.2 else nx q.1 k).testBit b with
        | true => rw [if_pos rfl, Nat.testBit_xor, hc, h3]; simp [e]
        | false => rw [if_neg (by decide), hc]; simp [e]
    have hlow : ∀ k, k < n → ∀ j, j < b → (k ≠ q.2 → (nx (clrN b q.2 (nx q.1 (atR b n q)) (swp q.1 (atR b n q) q.2) n) k).testBit j = (nx q.1 k).testBit j) ∧ (k = q.2 → (nx (clrN b q.2 (nx q.1 (atR b n q)) (swp q.1 (atR b n q) q.2) n) k).testBit j = false) := by
      intro k hk j hj
      have hz : (nx q.1 (atR b n q)).testBit j = false := h.zero _ h1 h2 j hj
      refine ⟨fun hne => ?_, fun e => ?_⟩
      · rw [nx_rstep hl h1 h2 hk, if_neg hne]
        have h5 := ho k hk hne j hj
        revert h5
        generalize (if atR b n q = k then nx q.1 q.2 else nx q.1 k) = y
        intro h5
        split
        · rw [Nat.testBit_xor, hz, Bool.xor_false]; exact h5
        · exact h5
      · rw [nx_rstep hl h1 h2 hk, if_pos e]; exact hz
    refine ⟨by dsimp only; omega, fun i hi => ?_, fun i j hij hj => ?_, fun i hi k hk => ?_, fun k hk hkn j hj => ?_⟩
    · dsimp only at hi ⊢
      split
      · omega
      · have := h.low i (by omega); omega
    · dsimp only at hj ⊢
      rw [if_neg (by omega : ¬ i = q.2)]
      split
      · exact h.low i (by omega)
      · exact h.inc i j hij (by omega)
    · dsimp only at hi ⊢
      by_cases e : i = q.2
      · rw [if_pos e, e]; exact hbit k hk
      · rw [if_neg e]
        have hp := h.low i (by omega)
        have ho1 := h.one i (by omega) k hk
        by_cases e2 : k = q.2
        · rw [(hlow k hk (p i) hp).2 e2, ← decide_eq_false (p := k = i) (by omega)]
        · rw [(hlow k hk (p i) hp).1 e2]; exact ho1
    · dsimp only at hk
      by_cases e : j = b
      · rw [e, hbit k hkn]; exact decide_eq_false (by omega)
      · rw [(hlow k hkn j (by omega)).1 (by omega)]
        exact h.zero k (by omega) hkn j (by omega)
theorem rkR_piv {n : Nat} {l : List Nat} (hl : l.length = n) : ∀ b, ∃ p, Piv n b (rkR n l b) p
  | 0 => ⟨_, Piv.start⟩
  | b + 1 => by
    obtain ⟨p, hp⟩ := rkR_piv hl b
    exact hp.step (by rw [rkR_length]; exact hl)
theorem rkR_bound {n k : Nat} {l : List Nat} (hl : l.length = n) (hb : ∀ i, i < n → nx l i < 2 ^ k) : ∀ b, ∀ i, i < n → nx (rkR n l b).1 i < 2 ^ k
  | 0, i, hi => hb i hi
  | b + 1, i, hi => by
    have ih := rkR_bound hl hb b
    have hlen : (rkR n l b).1.length = n := by rw [rkR_length]; exact hl
    obtain ⟨p, hp⟩ := rkR_piv hl b
    rw [rkR, rstep]
    split
    · exact ih i hi
    · rename_i hne
      rcases rstep_at (b := b) hlen hp.le with ⟨h1, _⟩ | ⟨h1, h2, _⟩
      · exact absurd h1 hne
      · have hx : (if atR b n (rkR n l b) = i then nx (rkR n l b).1 (rkR n l b).2 else nx (rkR n l b).1 i) < 2 ^ k := by
          split
          · exact ih _ (by omega)
          · exact ih i hi
        show nx (clrN _ _ _ _ _) i < _
        rw [nx_rstep hlen h1 h2 hi]
        revert hx
        generalize (if atR b n (rkR n l b) = i then nx (rkR n l b).1 (rkR n l b).2 else nx (rkR n l b).1 i) = y
        intro hx
        split
        · exact ih _ h2
        · split
          · exact Nat.xor_lt_two_pow hx (ih _ h2)
          · exact hx
theorem swp_reach {n : Nat} {l : List Nat} {i k : Nat} (hl : l.length = n) (hi : i < n) (hk : k < n) : Reach n 3 l (swp l i k) := by
  by_cases e : i = k
  · subst e
    have : swp l i i = l := list_ext_nx (by simp) fun j hj => by
      rw [nx_swp (by omega) (by simpa using hj)]
      split
      · rename_i h; rw [h]
      · rfl
    rw [this]; exact Reach.refl
  · refine ⟨[(i, k), (k, i), (i, k)], fun e he => ?_, by simp, ?_⟩
    · simp only [List.mem_cons, List.not_mem_nil, or_false] at he
      rcases he with rfl | rfl | rfl <;> dsimp only <;> omega
    · show cx (cx (cx l (i, k)) (k, i)) (i, k) = swp l i k
      have e1i : nx (cx l (i, k)) i = nx l i := by rw [nx_cx (by omega), if_neg (Ne.symm e)]
      have e1k : nx (cx l (i, k)) k = nx l k ^^^ nx l i := by rw [nx_cx (by omega), if_pos rfl]
      have e2i : nx (cx (cx l (i, k)) (k, i)) i = nx l k := by
        rw [nx_cx (by simp; omega), if_pos rfl]
        show nx (cx l (i, k)) i ^^^ nx (cx l (i, k)) k = _
        rw [e1i, e1k, Nat.xor_comm (nx l k), ← Nat.xor_assoc, Nat.xor_self, Nat.zero_xor]
      have e2k : nx (cx (cx l (i, k)) (k, i)) k = nx l k ^^^ nx l i := by rw [nx_cx (by simp; omega), if_neg e, e1k]
      refine list_ext_nx (by simp) fun j hj => ?_
      have hj' : j < l.length := by simpa using hj
      rw [nx_swp (by omega) hj', nx_cx (by simpa using hj')]
      show (if k = j then nx (cx (cx l (i, k)) (k, i)) j ^^^ nx (cx (cx l (i, k)) (k, i)) i else nx (cx (cx l (i, k)) (k, i)) j) = _
      by_cases h1 : k = j
      · subst h1
        rw [if_pos rfl, if_pos rfl, e2k, e2i, Nat.xor_comm (nx l k), Nat.xor_assoc, Nat.xor_self, Nat.xor_zero]
      · rw [if_neg h1, if_neg h1, nx_cx (by simpa using hj')]
        show (if i = j then nx (cx l (i, k)) j ^^^ nx (cx l (i, k)) k else nx (cx l (i, k)) j) = _
        by_cases h2 : i = j
        · subst h2
          rw [if_pos rfl, if_pos rfl, e1i, e1k, Nat.xor_comm (nx l k), ← Nat.xor_assoc, Nat.xor_self, Nat.zero_xor]
        · rw [if_neg h2, if_neg h2, nx_cx hj', if_neg h1]
theorem clrN_reach {n b rk : Nat} {l : List Nat} (hl : l.length = n) (hrk : rk < n) : ∀ m, m ≤ n → Reach n m l (clrN b rk (nx l rk) l m)
  | 0, _ => Reach.refl
  | m + 1, hm => by
    have ih := clrN_reach (b := b) hl hrk m (by omega)
    simp only [clrN]
    split
    · rename_i hc
      have e : (clrN b rk (nx l rk) l m).set m (nx (clrN b rk (nx l rk) l m) m ^^^ nx l rk) = cx (clrN b rk (nx l rk) l m) (rk, m) := by
        rw [cx]; congr 2
        rw [nx_clrN (by omega), if_neg fun h => h.2.1 rfl]
      rw [e]
      exact ih.trans (Reach.one hrk (by omega) (Ne.symm hc.1))
    · exact ih.mono (by omega)
theorem rstep_reach {n b : Nat} {q : List Nat × Nat} (hl : q.1.length = n) (hq : q.2 ≤ n) : Reach n (n + 3) q.1 (rstep n b q).1 := by
  rcases rstep_at (b := b) hl hq with ⟨h1, _⟩ | ⟨h1, h2, _⟩
  · rw [rstep, if_pos h1]; exact Reach.refl
  · rw [rstep, if_neg (by omega)]
    have e : nx q.1 (atR b n q) = nx (swp q.1 (atR b n q) q.2) q.2 := by rw [nx_swp (by omega) (by omega), if_pos rfl]
    have r1 := swp_reach (l := q.1) hl h2 (show q.2 < n by omega)
    have r2 := clrN_reach (b := b) (l := swp q.1 (atR b n q) q.2) (rk := q.2) (by simpa using hl) (by omega) n (Nat.le_refl _)
    dsimp only
    rw [e]
    exact (r1.trans r2).mono (by omega)
theorem rkR_reach {n : Nat} {l : List Nat} (hl : l.length = n) : ∀ b, Reach n (b * (n + 3)) l (rkR n l b).1
  | 0 => Reach.refl
  | b + 1 => by
    obtain ⟨p, hp⟩ := rkR_piv hl b
    refine ((rkR_reach hl b).trans (rstep_reach (b := b) (by rw [rkR_length]; exact hl) hp.le)).mono ?_
    rw [Nat.add_mul]; omega
/-- The identity. -/
def idL (n : Nat) : List Nat := (List.range n).map fun i => 2 ^ i
@[simp] theorem idL_length (n : Nat) : (idL n).length = n := by simp [idL]
theorem nx_idL {n i : Nat} (h : i < n) : nx (idL n) i = 2 ^ i := by simp [nx, idL, List.getD, h]
/-- Full rank: what is left is the identity. -/
theorem rkR_id {n : Nat} {l : List Nat} {b : Nat} (hl : l.length = n) (hb : ∀ i, i < n → nx l i < 2 ^ n) (hr : (rkR n l b).2 = n) : (rkR n l b).1 = idL n := by
  obtain ⟨p, hp⟩ := rkR_piv hl b
  have hbd := rkR_bound hl hb b
  have hlt : ∀ i, i < n → p i < n := fun i hi => by
    have h1 := hp.one i (by omega) i hi
    rw [decide_eq_true rfl] at h1
    cases Nat.lt_or_ge (p i) n with
    | inl h => exact h
    | inr h =>
      have := Nat.testBit_lt_two_pow (Nat.lt_of_lt_of_le (hbd i hi) (Nat.pow_le_pow_right (by omega) h))
      rw [this] at h1; cases h1
  have hge : ∀ i, i < n → i ≤ p i := by
    intro i
    induction i with
    | zero => intro _; omega
    | succ i ih => intro hi; have := ih (by omega); have := hp.inc i (i + 1) (by omega) (by omega); omega
  have hle : ∀ d i, i + d + 1 = n → p i ≤ i := by
    intro d
    induction d with
    | zero => intro i hi; have := hlt i (by omega); omega
    | succ d ih => intro i hi; have h1 := ih (i + 1) (by omega); have := hp.inc i (i + 1) (by omega) (by omega); omega
  have hpi : ∀ i, i < n → p i = i := fun i hi => by have := hge i hi; have := hle (n - 1 - i) i (by omega); omega
  refine list_ext_nx (by rw [rkR_length]; simp [hl]) fun k hk => ?_
  rw [rkR_length, hl] at hk
  rw [nx_idL hk]
  apply Nat.eq_of_testBit_eq
  intro j
  rw [Nat.testBit_two_pow]
  by_cases hj : j < n
  · have h1 := hp.one j (by omega) k hk
    rw [hpi j hj] at h1
    exact h1
  · rw [Nat.testBit_lt_two_pow (Nat.lt_of_lt_of_le (hbd k hk) (Nat.pow_le_pow_right (by omega) (by omega)))]
    exact (decide_eq_false (by omega)).symm

/-! ### Full rank and independence -/
theorem indep_swap2 {x y : Nat} {R : List Nat} : Indep (x :: y :: R) ↔ Indep (y :: x :: R) := (indep_perm_swap (A := [y]) (B := R) (x := x)).symm
theorem indep_swp {A B C : List Nat} {x y : Nat} : Indep (A ++ x :: (B ++ y :: C)) ↔ Indep (A ++ y :: (B ++ x :: C)) := by
  rw [indep_perm_swap, indep_perm_swap (x := y)]
  have e : ∀ u v : Nat, Indep (u :: (A ++ (B ++ v :: C))) ↔ Indep (v :: u :: ((A ++ B) ++ C)) := fun u v => by
    have h1 : u :: (A ++ (B ++ v :: C)) = (u :: (A ++ B)) ++ v :: C := by simp
    rw [h1, indep_perm_swap]; simp
  rw [e, e, indep_swap2]
theorem split_at {l : List Nat} {i : Nat} (h : i < l.length) : l = l.take i ++ nx l i :: l.drop (i + 1) := by
  have e : nx l i = l[i] := by simp [nx, List.getD, h]
  rw [e, List.getElem_cons_drop, List.take_append_drop]
theorem swp_indep {l : List Nat} {i k : Nat} (hi : i < l.length) (hk : k < l.length) : Indep l ↔ Indep (swp l i k) := by
  have key : ∀ i k : Nat, i < k → k < l.length → (Indep l ↔ Indep (swp l i k)) ∧ (Indep l ↔ Indep (swp l k i)) := by
    intro i k hik hk
    have h1 := split_at (l := l) (i := i) (by omega)
    have h2 := split_at (l := l.drop (i + 1)) (i := k - (i + 1)) (by simp; omega)
    have e2 : nx (l.drop (i + 1)) (k - (i + 1)) = nx l k := by
      simp only [nx, List.getD, List.getElem?_drop]
      congr 2; omega
    rw [e2, List.drop_drop] at h2
    have hl : l = l.take i ++ nx l i :: ((l.drop (i + 1)).take (k - (i + 1)) ++ nx l k :: l.drop (i + 1 + (k - (i + 1) + 1))) := by rw [← h2]; exact h1
    have hs : ∀ a b : Nat, (a = i ∧ b = k) ∨ (a = k ∧ b = i) → swp l a b = l.take i ++ nx l k :: ((l.drop (i + 1)).take (k - (i + 1)) ++ nx l i :: l.drop (i + 1 + (k - (i + 1) + 1))) := by
      intro a b hab
      apply List.ext_getElem?
      intro j
      have hx : ∀ j, j < l.length → l[j]? = some (nx l j) := fun j hj => by simp [nx, List.getD, hj]
      by_cases hj : j < l.length
      · have hsw : (swp l a b)[j]? = some (if j = i then nx l k else if j = k then nx l i else nx l j) := by
          have h3 : (swp l a b)[j]? = some (nx (swp l a b) j) := by simp [nx, List.getD, hj]
          rw [h3, nx_swp (by omega) hj]
          rcases hab with ⟨rfl, rfl⟩ | ⟨rfl, rfl⟩
          · by_cases c1 : b = j
            · subst c1; rw [if_pos rfl, if_neg (by omega), if_pos rfl]
            · rw [if_neg c1]
              by_cases c2 : a = j
              · subst c2; rw [if_pos rfl, if_pos rfl]
              · rw [if_neg c2, if_neg (Ne.symm c2), if_neg (Ne.symm c1)]
          · by_cases c1 : b = j
            · subst c1; rw [if_pos rfl, if_pos rfl]
            · rw [if_neg c1, if_neg (Ne.symm c1)]
              by_cases c2 : a = j
              · subst c2; simp
              · rw [if_neg c2, if_neg (Ne.symm c2)]
        rw [hsw]
        by_cases c1 : j < i
        · rw [List.getElem?_append_left (by simp; omega), List.getElem?_take_of_lt c1, hx j hj, if_neg (by omega), if_neg (by omega)]
        · rw [List.getElem?_append_right (by simp; omega)]
          simp only [List.length_take]
          rw [show min i l.length = i by omega]
          by_cases c2 : j = i
          · subst c2; simp
          · obtain ⟨d, hd⟩ : ∃ d, j - i = d + 1 := ⟨j - i - 1, by omega⟩
            rw [hd, List.getElem?_cons_succ, if_neg c2]
            by_cases c3 : j < k
            · rw [List.getElem?_append_left (by simp; omega), List.getElem?_take_of_lt (by omega), List.getElem?_drop, show i + 1 + d = j by omega, hx j hj, if_neg (by omega)]
            · rw [List.getElem?_append_right (by simp; omega)]
              simp only [List.length_take, List.length_drop]
              rw [show d - min (k - (i + 1)) (l.length - (i + 1)) = j - k by omega]
              by_cases c4 : j = k
              · subst c4; simp
              · obtain ⟨q, hq⟩ : ∃ q, j - k = q + 1 := ⟨j - k - 1, by omega⟩
                rw [hq, List.getElem?_cons_succ, List.getElem?_drop, show i + 1 + (k - (i + 1) + 1) + q = j by omega, hx j hj, if_neg c4]
      · rw [List.getElem?_eq_none (by simp; omega), List.getElem?_eq_none]
        simp only [List.length_append, List.length_cons, List.length_take, List.length_drop]; omega
    constructor
    · rw [hs i k (.inl ⟨rfl, rfl⟩)]
      conv => lhs; rw [hl]
      exact indep_swp
    · rw [hs k i (.inr ⟨rfl, rfl⟩)]
      conv => lhs; rw [hl]
      exact indep_swp
  rcases Nat.lt_trichotomy i k with h | h | h
  · exact (key i k h hk).1
  · subst h
    have : swp l i i = l := list_ext_nx (by simp) fun j hj => by
      rw [nx_swp hi (by simpa using hj)]
      split
      · rename_i h; rw [h]
      · rfl
    rw [this]
  · exact (key k i h hi).2
theorem clrN_indep {n b rk : Nat} {l : List Nat} (hl : l.length = n) (hrk : rk < n) : Indep l ↔ Indep (clrN b rk (nx l rk) l n) := by
  have h1 := split_at (l := l) (i := rk) (by omega)
  have h2 : clrN b rk (nx l rk) l n = (l.take rk).map (fun y => if y.testBit b then y ^^^ nx l rk else y) ++ nx l rk :: (l.drop (rk + 1)).map (fun y => if y.testBit b then y ^^^ nx l rk else y) := by
    apply List.ext_getElem?
    intro j
    by_cases hj : j < l.length
    · have h3 : (clrN b rk (nx l rk) l n)[j]? = some (nx (clrN b rk (nx l rk) l n) j) := by simp [nx, List.getD, hj]
      rw [h3, nx_clrN hj]
      have hx : l[j]? = some (nx l j) := by simp [nx, List.getD, hj]
      by_cases c1 : j < rk
      · rw [List.getElem?_append_left (by simp; omega), List.getElem?_map, List.getElem?_take_of_lt c1, hx]
        simp only [Option.map_some]
        by_cases hb : (nx l j).testBit b = true
        · rw [if_pos ⟨by omega, by omega, hb⟩, if_pos hb]
        · rw [if_neg fun h => hb h.2.2, if_neg hb]
      · rw [List.getElem?_append_right (by simp; omega)]
        simp only [List.length_map, List.length_take]
        rw [show min rk l.length = rk by omega]
        by_cases c2 : j = rk
        · subst c2; simp
        · obtain ⟨d, hd⟩ : ∃ d, j - rk = d + 1 := ⟨j - rk - 1, by omega⟩
          rw [hd, List.getElem?_cons_succ, List.getElem?_map, List.getElem?_drop, show rk + 1 + d = j by omega, hx]
          simp only [Option.map_some]
          by_cases hb : (nx l j).testBit b = true
          · rw [if_pos ⟨by omega, c2, hb⟩, if_pos hb]
          · rw [if_neg fun h => hb h.2.2, if_neg hb]
    · rw [List.getElem?_eq_none (by simp; omega), List.getElem?_eq_none]
      simp only [List.length_append, List.length_cons, List.length_map, List.length_take, List.length_drop]; omega
  rw [h2]
  conv => lhs; rw [h1]
  rw [indep_perm_swap, indep_add (f := fun y => y.testBit b), List.map_append, ← indep_perm_swap]
theorem rkR_indep {n : Nat} {l : List Nat} (hl : l.length = n) : ∀ b, Indep l ↔ Indep (rkR n l b).1
  | 0 => Iff.rfl
  | b + 1 => by
    rw [rkR_indep hl b]
    have hlen : (rkR n l b).1.length = n := by rw [rkR_length]; exact hl
    obtain ⟨p, hp⟩ := rkR_piv hl b
    rw [rkR]
    rcases rstep_at (b := b) hlen hp.le with ⟨h1, _⟩ | ⟨h1, h2, _⟩
    · rw [rstep, if_pos h1]
    · rw [rstep, if_neg (by omega)]
      have e : nx (rkR n l b).1 (atR b n (rkR n l b)) = nx (swp (rkR n l b).1 (atR b n (rkR n l b)) (rkR n l b).2) (rkR n l b).2 := by rw [nx_swp (by omega) (by omega), if_pos rfl]
      dsimp only
      rw [e, ← clrN_indep (by simpa using hlen) (by omega), ← swp_indep (by omega) (by omega)]
/-- Only one row has the bit. -/
theorem parS_one {j : Nat} : ∀ (s : List Bool) (r : List Nat) (i : Nat), s.length = r.length → (∀ k, k < r.length → (nx r k).testBit j = decide (k = i)) → parS s r j = s.getD i false
  | [], [], i, _, _ => by simp [parS]
  | c :: s, x :: r, i, hs, h => by
    have h0 : x.testBit j = decide (0 = i) := by simpa [nx] using h 0 (by simp)
    have hr : ∀ k, k < r.length → (nx r k).testBit j = decide (k + 1 = i) := fun k hk => by
      have := h (k + 1) (by simpa using hk)
      simpa [nx] using this
    cases i with
    | zero =>
      have hz : parS s r j = false := by
        have := parS_one s r r.length (by simpa using hs) fun k hk => by rw [hr k hk]; simp; omega
        rw [this]
        have : s.length ≤ r.length := by have := hs; simp at this; omega
        simp [List.getD, this]
      simp [parS, h0, hz]
    | succ i =>
      have := parS_one s r i (by simpa using hs) fun k hk => by rw [hr k hk]; simp
      simp only [parS, h0, this]
      simp
theorem nx_mem {l : List Nat} {x : Nat} (h : x ∈ l) : ∃ i, i < l.length ∧ nx l i = x := by
  obtain ⟨i, hi, e⟩ := List.getElem_of_mem h
  exact ⟨i, hi, by simp [nx, List.getD, hi, e]⟩
/-- The reference's rank is whole exactly where the rows are independent. -/
theorem rkR_full {n k : Nat} {l : List Nat} (hl : l.length = n) (hb : ∀ i, i < n → nx l i < 2 ^ k) : (rkR n l k).2 = n ↔ Indep l := by
  rw [rkR_indep hl k]
  have hlen : (rkR n l k).1.length = n := by rw [rkR_length]; exact hl
  obtain ⟨p, hp⟩ := rkR_piv hl k
  constructor
  · intro hr s hs hz b hbm
    obtain ⟨i, hi, e⟩ := List.getElem_of_mem hbm
    have h1 := parS_one (j := p i) s _ i hs fun q hq => hp.one i (by omega) q (by omega)
    rw [hz] at h1
    simpa [List.getD, hi, e] using h1.symm
  · intro hi
    cases Nat.lt_or_ge (rkR n l k).2 n with
    | inr h => have := hp.le; omega
    | inl h =>
      exfalso
      have hbd := rkR_bound hl hb k
      have hz : ∀ j, (nx (rkR n l k).1 (rkR n l k).2).testBit j = false := fun j => by
        by_cases e : j < k
        · exact hp.zero _ (Nat.le_refl _) h j e
        · exact Nat.testBit_lt_two_pow (Nat.lt_of_lt_of_le (hbd _ h) (Nat.pow_le_pow_right (by omega) (by omega)))
      have hsp := split_at (l := (rkR n l k).1) (i := (rkR n l k).2) (by omega)
      rw [hsp, indep_perm_swap] at hi
      have := hi (true :: List.replicate ((rkR n l k).1.take (rkR n l k).2 ++ (rkR n l k).1.drop ((rkR n l k).2 + 1)).length false) (by simp) (fun j => by
        simp only [parS, hz j, Bool.and_false, Bool.false_xor]
        exact parS_zero _ _ _ fun b hb => (List.mem_replicate.1 hb).2) true (by simp)
      cases this
/-- Every map of full rank is reached from the identity. -/
theorem full_reach {n : Nat} {l : List Nat} (hl : l.length = n) (hb : ∀ i, i < n → nx l i < 2 ^ n) (hi : Indep l) : Reach n (n * (n + 3)) (idL n) l := by
  have hr := (rkR_full hl hb).2 hi
  have := rkR_reach hl n
  rw [rkR_id hl hb hr] at this
  exact this.symm hl

end Go.Proofs.Yteehfidjofcfmaa
