/- Plain laws: the reference's rank; additions of rows lead from the identity to every map of full rank. -/
import Derived.Test.YteehfidjofcfmaaN1
import Derived.Shelf.Slices.Turned
import Derived.Ground.Names2Prog
import Derived.Shelf.Slices.Clone
import Derived.Shelf.Slices.Delete
import Derived.Shelf.Slices.Cells
import Derived.Shelf.Slices.Empties
import Derived.Test.YteehfidjofcfmaaProg
import Derived.DeepKeys4
import Derived.Maps.Keyed
set_option linter.unusedSimpArgs false
set_option linter.unusedVariables false
namespace Go.Proofs.Yteehfidjofcfmaa
open Go Go.RowKit
/-- Row e.1 is added to row e.2. -/
def cx (l : List Nat) (e : Nat × Nat) : List Nat := l.set e.2 (nx l e.2 ^^^ nx l e.1)
@[simp] theorem cx_length (l : List Nat) (e : Nat × Nat) : (cx l e).length = l.length := by simp [cx]
def cxs (l : List Nat) (w : List (Nat × Nat)) : List Nat := w.foldl cx l
theorem cxs_append (l : List Nat) (w v : List (Nat × Nat)) : cxs l (w ++ v) = cxs (cxs l w) v := List.foldl_append ..
theorem cxs_length : ∀ (w : List (Nat × Nat)) (l : List Nat), (cxs l w).length = l.length
  | [], _ => rfl
  | e :: w, l => by show (cxs (cx l e) w).length = _; rw [cxs_length w, cx_length]
/-- Additions of different rows among n. -/
def WOk (n : Nat) (w : List (Nat × Nat)) : Prop := ∀ e ∈ w, e.1 < n ∧ e.2 < n ∧ e.1 ≠ e.2
theorem nx_cx {l : List Nat} {e : Nat × Nat} {k : Nat} (h : k < l.length) : nx (cx l e) k = if e.2 = k then nx l k ^^^ nx l e.1 else nx l k := by
  rw [cx, nx_set h]
  split
  · rename_i h2; rw [h2]
  · rfl
theorem cx_cx {l : List Nat} {e : Nat × Nat} (h1 : e.1 < l.length) (h3 : e.1 ≠ e.2) : cx (cx l e) e = l := by
  refine list_ext_nx (by simp) fun k hk => ?_
  have hk' : k < l.length := by simpa using hk
  rw [nx_cx (by simpa using hk'), nx_cx hk', nx_cx h1, if_neg (Ne.symm h3)]
  split
  · rw [Nat.xor_assoc, Nat.xor_self, Nat.xor_zero]
  · rfl
/-- One list of rows leads to another by at most k additions. -/
def Reach (n k : Nat) (l l' : List Nat) : Prop := ∃ w, WOk n w ∧ w.length ≤ k ∧ cxs l w = l'
theorem Reach.refl {n k : Nat} {l : List Nat} : Reach n k l l := ⟨[], fun _ h => (by cases h), Nat.zero_le _, rfl⟩
theorem Reach.trans {n k m : Nat} {a b c : List Nat} (h : Reach n k a b) (h' : Reach n m b c) : Reach n (k + m) a c := by
  obtain ⟨w, h1, h2, h3⟩ := h
  obtain ⟨v, g1, g2, g3⟩ := h'
  refine ⟨w ++ v, fun e he => ?_, by simp; omega, by rw [cxs_append, h3, g3]⟩
  rcases List.mem_append.1 he with he | he
  · exact h1 e he
  · exact g1 e he
theorem Reach.mono {n k m : Nat} {a b : List Nat} (h : Reach n k a b) (hm : k ≤ m) : Reach n m a b := by
  obtain ⟨w, h1, h2, h3⟩ := h
  exact ⟨w, h1, by omega, h3⟩
theorem Reach.one {n : Nat} {l : List Nat} {a b : Nat} (ha : a < n) (hb : b < n) (hab : a ≠ b) : Reach n 1 l (cx l (a, b)) :=
  ⟨[(a, b)], fun e he => by simp only [List.mem_singleton] at he; subst he; exact ⟨ha, hb, hab⟩, by simp, rfl⟩
theorem cxs_back {n : Nat} : ∀ (w : List (Nat × Nat)) (l : List Nat), l.length = n → WOk n w → cxs (cxs l w) w.reverse = l
  | [], _, _, _ => rfl
  | e :: w, l, hl, h => by
    have he := h e (by simp)
    have ih := cxs_back w (cx l e) (by simpa using hl) fun x hx => h x (by simp [hx])
    rw [List.reverse_cons, cxs_append]
    show cx (cxs (cxs (cx l e) w) w.reverse) e = l
    rw [ih, cx_cx (by omega) he.2.2]
theorem Reach.symm {n k : Nat} {a b : List Nat} (ha : a.length = n) (h : Reach n k a b) : Reach n k b a := by
  obtain ⟨w, h1, h2, rfl⟩ := h
  exact ⟨w.reverse, fun e he => h1 e (by simpa using he), by simpa using h2, cxs_back w a ha h1⟩
theorem Reach.len {n k : Nat} {a b : List Nat} (h : Reach n k a b) : b.length = a.length := by
  obtain ⟨w, _, _, rfl⟩ := h
  exact cxs_length w a

/-! ### The reference's rank -/
def atR (b n : Nat) (q : List Nat × Nat) : Nat := scanR (fun i => (nx q.1 i).testBit b) q.2 (n - q.2)
def swp (l : List Nat) (i k : Nat) : List Nat := (l.set i (nx l k)).set k (nx l i)
@[simp] theorem swp_length (l : List Nat) (i k : Nat) : (swp l i k).length = l.length := by simp [swp]
def clrN (b rk x : Nat) (l : List Nat) : Nat → List Nat
  | 0 => l
  | i + 1 => if i ≠ rk ∧ (nx (clrN b rk x l i) i).testBit b = true then (clrN b rk x l i).set i (nx (clrN b rk x l i) i ^^^ x) else clrN b rk x l i
@[simp] theorem clrN_length (b rk x : Nat) (l : List Nat) : ∀ i, (clrN b rk x l i).length = l.length
  | 0 => rfl
  | i + 1 => by simp only [clrN]; split <;> simp [clrN_length b rk x l i]
def rstep (n b : Nat) (q : List Nat × Nat) : List Nat × Nat :=
  if atR b n q = n then q else (clrN b q.2 (nx q.1 (atR b n q)) (swp q.1 (atR b n q) q.2) n, q.2 + 1)
def rkR (n : Nat) (l : List Nat) : Nat → List Nat × Nat
  | 0 => (l, 0)
  | b + 1 => rstep n b (rkR n l b)
theorem scanR_spec {p : Nat → Bool} {n : Nat} : ∀ (m i : Nat), i + m = n → (scanR p i m = n ∧ ∀ k, i ≤ k → k < n → p k = false) ∨ (i ≤ scanR p i m ∧ scanR p i m < n ∧ p (scanR p i m) = true)
  | 0, i, h => .inl ⟨by simp only [scanR]; omega, fun k h1 h2 => by omega⟩
  | m + 1, i, h => by
    simp only [scanR]
    cases hp : p i with
    | true => rw [if_pos rfl]; exact .inr ⟨Nat.le_refl _, by omega, hp⟩
    | false =>
      rw [if_neg (by decide)]
      rcases scanR_spec (p := p) (n := n) m (i + 1) (by omega) with ⟨h1, h2⟩ | ⟨h1, h2, h3⟩
      · refine .inl ⟨h1, fun k hk hk2 => ?_⟩
        by_cases e : k = i
        · rw [e]; exact hp
        · exact h2 k (by omega) hk2
      · exact .inr ⟨by omega, h2, h3⟩
theorem nx_swp {l : List Nat} {i k j : Nat} (hi : i < l.length) (hj : j < l.length) : nx (swp l i k) j = if k = j then nx l i else if i = j then nx l k else nx l j := by
  rw [swp, nx_set (by simpa using hj), nx_set hj]
theorem nx_clrN {b rk x : Nat} {l : List Nat} : ∀ {m i : Nat}, i < l.length → nx (clrN b rk x l m) i = if i < m ∧ i ≠ rk ∧ (nx l i).testBit b = true then nx l i ^^^ x else nx l i
  | 0, i, _ => by simp [clrN]
  | m + 1, i, hi => by
    have ih := @nx_clrN b rk x l m
    simp only [clrN]
    by_cases hm : m < l.length
    · have hmm := ih hm
      rw [if_neg (fun h3 => absurd h3.1 (Nat.lt_irrefl _))] at hmm
      rw [hmm]
      by_cases hc : m ≠ rk ∧ (nx l m).testBit b = true
      · rw [if_pos hc, nx_set (by simpa using hi)]
        by_cases e : m = i
        · subst e; rw [if_pos rfl, if_pos ⟨by omega, hc⟩]
        · rw [if_neg e, ih hi]
          by_cases h2 : i < m ∧ i ≠ rk ∧ (nx l i).testBit b = true
          · rw [if_pos h2, if_pos ⟨by omega, h2.2⟩]
          · rw [if_neg h2, if_neg fun h3 => h2 ⟨by omega, h3.2⟩]
      · rw [if_neg hc, ih hi]
        by_cases h2 : i < m ∧ i ≠ rk ∧ (nx l i).testBit b = true
        · rw [if_pos h2, if_pos ⟨by omega, h2.2⟩]
        · rw [if_neg h2]
          by_cases e : m = i
          · subst e; rw [if_neg fun h3 => hc h3.2]
          · rw [if_neg fun h3 => h2 ⟨by omega, h3.2⟩]
    · have : nx (clrN b rk x l m) m = 0 := nx_ge (by simp; omega)
      rw [this, if_neg (by simp), ih hi]
      by_cases h2 : i < m ∧ i ≠ rk ∧ (nx l i).testBit b = true
      · rw [if_pos h2, if_pos ⟨by omega, h2.2⟩]
      · rw [if_neg h2, if_neg fun h3 => h2 ⟨by omega, h3.2⟩]
theorem rstep_length (n b : Nat) (q : List Nat × Nat) : (rstep n b q).1.length = q.1.length := by
  unfold rstep; split <;> simp
theorem rkR_length (n : Nat) (l : List Nat) : ∀ b, (rkR n l b).1.length = l.length
  | 0 => rfl
  | b + 1 => by rw [rkR, rstep_length, rkR_length n l b]
/-- Where the elimination stands before bit b. -/
structure Piv (n b : Nat) (q : List Nat × Nat) (p : Nat → Nat) : Prop where
  le : q.2 ≤ n
  low : ∀ i, i < q.2 → p i < b
  inc : ∀ i j, i < j → j < q.2 → p i < p j
  one : ∀ i, i < q.2 → ∀ k, k < n → (nx q.1 k).testBit (p i) = decide (k = i)
  zero : ∀ k, q.2 ≤ k → k < n → ∀ j, j < b → (nx q.1 k).testBit j = false
theorem Piv.start {n : Nat} {l : List Nat} : Piv n 0 (l, 0) (fun _ => 0) := ⟨Nat.zero_le _, fun _ h => (by cases h), fun _ _ _ h => (by cases h), fun _ h => (by cases h), fun _ _ _ _ h => (by omega)⟩
/-- What a step does. -/
theorem rstep_at {n b : Nat} {q : List Nat × Nat} (hl : q.1.length = n) (hq : q.2 ≤ n) : (atR b n q = n ∧ (∀ k, q.2 ≤ k → k < n → (nx q.1 k).testBit b = false)) ∨ (q.2 ≤ atR b n q ∧ atR b n q < n ∧ (nx q.1 (atR b n q)).testBit b = true) :=
  scanR_spec (p := fun i => (nx q.1 i).testBit b) (n - q.2) q.2 (by omega)
theorem nx_rstep {n b : Nat} {q : List Nat × Nat} (hl : q.1.length = n) (h : q.2 ≤ atR b n q) (h1 : atR b n q < n) {k : Nat} (hk : k < n) :
    nx (clrN b q.2 (nx q.1 (atR b n q)) (swp q.1 (atR b n q) q.2) n) k =
      if k = q.2 then nx q.1 (atR b n q) else
        if (if atR b n q = k then nx q.1 q.2 else nx q.1 k).testBit b = true then (if atR b n q = k then nx q.1 q.2 else nx q.1 k) ^^^ nx q.1 (atR b n q) else (if atR b n q = k then nx q.1 q.2 else nx q.1 k) := by
  rw [nx_clrN (by simp; omega), nx_swp (by omega) (by omega)]
  by_cases e : k = q.2
  · rw [if_pos e, if_pos e.symm, if_neg fun h3 => h3.2.1 e]
  · rw [if_neg e, if_neg (Ne.symm e)]
    by_cases h2 : (if atR b n q = k then nx q.1 q.2 else nx q.1 k).testBit b = true
    · rw [if_pos h2, if_pos ⟨hk, e, h2⟩]
    · rw [if_neg h2, if_neg fun h3 => h2 h3.2.2]
theorem Piv.step {n b : Nat} {q : List Nat × Nat} {p : Nat → Nat} (hl : q.1.length = n) (h : Piv n b q p) : ∃ p', Piv n (b + 1) (rstep n b q) p' := by
  rcases rstep_at (b := b) hl h.le with ⟨h1, h2⟩ | ⟨h1, h2, h3⟩
  · refine ⟨p, ?_⟩
    rw [rstep, if_pos h1]
    refine ⟨h.le, fun i hi => by have := h.low i hi; omega, h.inc, h.one, fun k hk hkn j hj => ?_⟩
    by_cases e : j = b
    · rw [e]; exact h2 k hk hkn
    · exact h.zero k hk hkn j (by omega)
  · refine ⟨fun i => if i = q.2 then b else p i, ?_⟩
    rw [rstep, if_neg (by omega)]
    have ho : ∀ k, k < n → k ≠ q.2 → ∀ j, j < b → (if atR b n q = k then nx q.1 q.2 else nx q.1 k).testBit j = (nx q.1 k).testBit j := by
      intro k hk hne j hj
      split
      · rename_i e
        rw [h.zero q.2 (Nat.le_refl _) (by omega) j hj, h.zero k (by omega) hk j hj]
      · rfl
    have hbit : ∀ k, k < n → (nx (clrN b q.2 (nx q.1 (atR b n q)) (swp q.1 (atR b n q) q.2) n) k).testBit b = decide (k = q.2) := by
      intro k hk
      rw [nx_rstep hl h1 h2 hk]
      by_cases e : k = q.2
      · rw [if_pos e, h3]; simp [e]
      · rw [if_neg e]
        cases hc : (if atR b n q = k then nx q.1 q.2 else nx q.1 k).testBit b with
        | true => rw [if_pos rfl, Nat.testBit_xor, hc, h3]; simp [e]
        | false => rw [if_neg (by decide), hc]; simp [e]
    have hlow : ∀ k, k < n → ∀ j, j < b → (k ≠ q.2 → (nx (clrN b q.2 (nx q.1 (atR b n q)) (swp q.1 (atR b n q) q.2) n) k).testBit j = (nx q.1 k).testBit j) ∧ (k = q.2 → (nx (clrN b q.2 (nx q.1 (atR b n q)) (swp q.1 (atR b n q) q.2) n) k).testBit j = false) := by
      intro k hk j hj
      have hz : (nx q.1 (atR b n q)).testBit j = false := h.zero _ h1 h2 j hj
      refine ⟨fun hne => ?_, fun e => ?_⟩
      · rw [nx_rstep hl h1 h2 hk, if_neg hne]
        have h5 := ho k hk hne j hj
        revert h5
        generalize (if atR b n q = k then nx q.1 q.2 else nx q.1 k) = y
        intro h5
        split
        · rw [Nat.testBit_xor, hz, Bool.xor_false]; exact h5
        · exact h5
      · rw [nx_rstep hl h1 h2 hk, if_pos e]; exact hz
    refine ⟨by dsimp only; omega, fun i hi => ?_, fun i j hij hj => ?_, fun i hi k hk => ?_, fun k hk hkn j hj => ?_⟩
    · dsimp only at hi ⊢
      split
      · omega
      · have := h.low i (by omega); omega
    · dsimp only at hj ⊢
      rw [if_neg (by omega : ¬ i = q.2)]
      split
      · exact h.low i (by omega)
      · exact h.inc i j hij (by omega)
    · dsimp only at hi ⊢
      by_cases e : i = q.2
      · rw [if_pos e, e]; exact hbit k hk
      · rw [if_neg e]
        have hp := h.low i (by omega)
        have ho1 := h.one i (by omega) k hk
        by_cases e2 : k = q.2
        · rw [(hlow k hk (p i) hp).2 e2, ← decide_eq_false (p := k = i) (by omega)]
        · rw [(hlow k hk (p i) hp).1 e2]; exact ho1
    · dsimp only at hk
      by_cases e : j = b
      · rw [e, hbit k hkn]; exact decide_eq_false (by omega)
      · rw [(hlow k hkn j (by omega)).1 (by omega)]
        exact h.zero k (by omega) hkn j (by omega)
theorem rkR_piv {n : Nat} {l : List Nat} (hl : l.length = n) : ∀ b, ∃ p, Piv n b (rkR n l b) p
  | 0 => ⟨_, Piv.start⟩
  | b + 1 => by
    obtain ⟨p, hp⟩ := rkR_piv hl b
    exact hp.step (by rw [rkR_length]; exact hl)
theorem rkR_bound {n k : Nat} {l : List Nat} (hl : l.length = n) (hb : ∀ i, i < n → nx l i < 2 ^ k) : ∀ b, ∀ i, i < n → nx (rkR n l b).1 i < 2 ^ k
  | 0, i, hi => hb i hi
  | b + 1, i, hi => by
    have ih := rkR_bound hl hb b
    have hlen : (rkR n l b).1.length = n := by rw [rkR_length]; exact hl
    obtain ⟨p, hp⟩ := rkR_piv hl b
    rw [rkR, rstep]
    split
    · exact ih i hi
    · rename_i hne
      rcases rstep_at (b := b) hlen hp.le with ⟨h1, _⟩ | ⟨h1, h2, _⟩
      · exact absurd h1 hne
      · have hx : (if atR b n (rkR n l b) = i then nx (rkR n l b).1 (rkR n l b).2 else nx (rkR n l b).1 i) < 2 ^ k := by
          split
          · exact ih _ (by omega)
          · exact ih i hi
        show nx (clrN _ _ _ _ _) i < _
        rw [nx_rstep hlen h1 h2 hi]
        revert hx
        generalize (if atR b n (rkR n l b) = i then nx (rkR n l b).1 (rkR n l b).2 else nx (rkR n l b).1 i) = y
        intro hx
        split
        · exact ih _ h2
        · split
          · exact Nat.xor_lt_two_pow hx (ih _ h2)
          · exact hx
theorem swp_reach {n : Nat} {l : List Nat} {i k : Nat} (hl : l.length = n) (hi : i < n) (hk : k < n) : Reach n 3 l (swp l i k) := by
  by_cases e : i = k
  · subst e
    have : swp l i i = l := list_ext_nx (by simp) fun j hj => by
      rw [nx_swp (by omega) (by simpa using hj)]
      split
      · rename_i h; rw [h]
      · rfl
    rw [this]; exact Reach.refl
  · refine ⟨[(i, k), (k, i), (i, k)], fun e he => ?_, by simp, ?_⟩
    · simp only [List.mem_cons, List.not_mem_nil, or_false] at he
      rcases he with rfl | rfl | rfl <;> dsimp only <;> omega
    · show cx (cx (cx l (i, k)) (k, i)) (i, k) = swp l i k
      have e1i : nx (cx l (i, k)) i = nx l i := by rw [nx_cx (by omega), if_neg (Ne.symm e)]
      have e1k : nx (cx l (i, k)) k = nx l k ^^^ nx l i := by rw [nx_cx (by omega), if_pos rfl]
      have e2i : nx (cx (cx l (i, k)) (k, i)) i = nx l k := by
        rw [nx_cx (by simp; omega), if_pos rfl]
        show nx (cx l (i, k)) i ^^^ nx (cx l (i, k)) k = _
        rw [e1i, e1k, Nat.xor_comm (nx l k), ← Nat.xor_assoc, Nat.xor_self, Nat.zero_xor]
      have e2k : nx (cx (cx l (i, k)) (k, i)) k = nx l k ^^^ nx l i := by rw [nx_cx (by simp; omega), if_neg e, e1k]
      refine list_ext_nx (by simp) fun j hj => ?_
      have hj' : j < l.length := by simpa using hj
      rw [nx_swp (by omega) hj', nx_cx (by simpa using hj')]
      show (if k = j then nx (cx (cx l (i, k)) (k, i)) j ^^^ nx (cx (cx l (i, k)) (k, i)) i else nx (cx (cx l (i, k)) (k, i)) j) = _
      by_cases h1 : k = j
      · subst h1
        rw [if_pos rfl, if_pos rfl, e2k, e2i, Nat.xor_comm (nx l k), Nat.xor_assoc, Nat.xor_self, Nat.xor_zero]
      · rw [if_neg h1, if_neg h1, nx_cx (by simpa using hj')]
        show (if i = j then nx (cx l (i, k)) j ^^^ nx (cx l (i, k)) k else nx (cx l (i, k)) j) = _
        by_cases h2 : i = j
        · subst h2
          rw [if_pos rfl, if_pos rfl, e1i, e1k, Nat.xor_comm (nx l k), ← Nat.xor_assoc, Nat.xor_self, Nat.zero_xor]
        · rw [if_neg h2, if_neg h2, nx_cx hj', if_neg h1]
theorem clrN_reach {n b rk : Nat} {l : List Nat} (hl : l.length = n) (hrk : rk < n) : ∀ m, m ≤ n → Reach n m l (clrN b rk (nx l rk) l m)
  | 0, _ => Reach.refl
  | m + 1, hm => by
    have ih := clrN_reach (b := b) hl hrk m (by omega)
    simp only [clrN]
    split
    · rename_i hc
      have e : (clrN b rk (nx l rk) l m).set m (nx (clrN b rk (nx l rk) l m) m ^^^ nx l rk) = cx (clrN b rk (nx l rk) l m) (rk, m) := by
        rw [cx]; congr 2
        rw [nx_clrN (by omega), if_neg fun h => h.2.1 rfl]
      rw [e]
      exact ih.trans (Reach.one hrk (by omega) (Ne.symm hc.1))
    · exact ih.mono (by omega)
theorem rstep_reach {n b : Nat} {q : List Nat × Nat} (hl : q.1.length = n) (hq : q.2 ≤ n) : Reach n (n + 3) q.1 (rstep n b q).1 := by
  rcases rstep_at (b := b) hl hq with ⟨h1, _⟩ | ⟨h1, h2, _⟩
  · rw [rstep, if_pos h1]; exact Reach.refl
  · rw [rstep, if_neg (by omega)]
    have e : nx q.1 (atR b n q) = nx (swp q.1 (atR b n q) q.2) q.2 := by rw [nx_swp (by omega) (by omega), if_pos rfl]
    have r1 := swp_reach (l := q.1) hl h2 (show q.2 < n by omega)
    have r2 := clrN_reach (b := b) (l := swp q.1 (atR b n q) q.2) (rk := q.2) (by simpa using hl) (by omega) n (Nat.le_refl _)
    dsimp only
    rw [e]
    exact (r1.trans r2).mono (by omega)
theorem rkR_reach {n : Nat} {l : List Nat} (hl : l.length = n) : ∀ b, Reach n (b * (n + 3)) l (rkR n l b).1
  | 0 => Reach.refl
  | b + 1 => by
    obtain ⟨p, hp⟩ := rkR_piv hl b
    refine ((rkR_reach hl b).trans (rstep_reach (b := b) (by rw [rkR_length]; exact hl) hp.le)).mono ?_
    rw [Nat.add_mul]; omega
/-- The identity. -/
def idL (n : Nat) : List Nat := (List.range n).map fun i => 2 ^ i
@[simp] theorem idL_length (n : Nat) : (idL n).length = n := by simp [idL]
theorem nx_idL {n i : Nat} (h : i < n) : nx (idL n) i = 2 ^ i := by simp [nx, idL, List.getD, h]
/-- Full rank: what is left is the identity. -/
theorem rkR_id {n : Nat} {l : List Nat} {b : Nat} (hl : l.length = n) (hb : ∀ i, i < n → nx l i < 2 ^ n) (hr : (rkR n l b).2 = n) : (rkR n l b).1 = idL n := by
  obtain ⟨p, hp⟩ := rkR_piv hl b
  have hbd := rkR_bound hl hb b
  have hlt : ∀ i, i < n → p i < n := fun i hi => by
    have h1 := hp.one i (by omega) i hi
    rw [decide_eq_true rfl] at h1
    cases Nat.lt_or_ge (p i) n with
    | inl h => exact h
    | inr h =>
      have := Nat.testBit_lt_two_pow (Nat.lt_of_lt_of_le (hbd i hi) (Nat.pow_le_pow_right (by omega) h))
      rw [this] at h1; cases h1
  have hge : ∀ i, i < n → i ≤ p i := by
    intro i
    induction i with
    | zero => intro _; omega
    | succ i ih => intro hi; have := ih (by omega); have := hp.inc i (i + 1) (by omega) (by omega); omega
  have hle : ∀ d i, i + d + 1 = n → p i ≤ i := by
    intro d
    induction d with
    | zero => intro i hi; have := hlt i (by omega); omega
    | succ d ih => intro i hi; have h1 := ih (i + 1) (by omega); have := hp.inc i (i + 1) (by omega) (by omega); omega
  have hpi : ∀ i, i < n → p i = i := fun i hi => by have := hge i hi; have := hle (n - 1 - i) i (by omega); omega
  refine list_ext_nx (by rw [rkR_length]; simp [hl]) fun k hk => ?_
  rw [rkR_length, hl] at hk
  rw [nx_idL hk]
  apply Nat.eq_of_testBit_eq
  intro j
  rw [Nat.testBit_two_pow]
  by_cases hj : j < n
  · have h1 := hp.one j (by omega) k hk
    rw [hpi j hj] at h1
    exact h1
  · rw [Nat.testBit_lt_two_pow (Nat.lt_of_lt_of_le (hbd k hk) (Nat.pow_le_pow_right (by omega) (by omega)))]
    exact (decide_eq_false (by omega)).symm

/-! ### Full rank and independence -/
theorem indep_swap2 {x y : Nat} {R : List Nat} : Indep (x :: y :: R) ↔ Indep (y :: x :: R) := (indep_perm_swap (A := [y]) (B := R) (x := x)).symm
theorem indep_swp {A B C : List Nat} {x y : Nat} : Indep (A ++ x :: (B ++ y :: C)) ↔ Indep (A ++ y :: (B ++ x :: C)) := by
  rw [indep_perm_swap, indep_perm_swap (x := y)]
  have e : ∀ u v : Nat, Indep (u :: (A ++ (B ++ v :: C))) ↔ Indep (v :: u :: ((A ++ B) ++ C)) := fun u v => by
    have h1 : u :: (A ++ (B ++ v :: C)) = (u :: (A ++ B)) ++ v :: C := by simp
    rw [h1, indep_perm_swap]; simp
  rw [e, e, indep_swap2]
theorem split_at {l : List Nat} {i : Nat} (h : i < l.length) : l = l.take i ++ nx l i :: l.drop (i + 1) := by
  have e : nx l i = l[i] := by simp [nx, List.getD, h]
  rw [e, List.getElem_cons_drop, List.take_append_drop]
theorem swp_indep {l : List Nat} {i k : Nat} (hi : i < l.length) (hk : k < l.length) : Indep l ↔ Indep (swp l i k) := by
  have key : ∀ i k : Nat, i < k → k < l.length → (Indep l ↔ Indep (swp l i k)) ∧ (Indep l ↔ Indep (swp l k i)) := by
    intro i k hik hk
    have h1 := split_at (l := l) (i := i) (by omega)
    have h2 := split_at (l := l.drop (i + 1)) (i := k - (i + 1)) (by simp; omega)
    have e2 : nx (l.drop (i + 1)) (k - (i + 1)) = nx l k := by
      simp only [nx, List.getD, List.getElem?_drop]
      congr 2; omega
    rw [e2, List.drop_drop] at h2
    have hl : l = l.take i ++ nx l i :: ((l.drop (i + 1)).take (k - (i + 1)) ++ nx l k :: l.drop (i + 1 + (k - (i + 1) + 1))) := by rw [← h2]; exact h1
    have hs : ∀ a b : Nat, (a = i ∧ b = k) ∨ (a = k ∧ b = i) → swp l a b = l.take i ++ nx l k :: ((l.drop (i + 1)).take (k - (i + 1)) ++ nx l i :: l.drop (i + 1 + (k - (i + 1) + 1))) := by
      intro a b hab
      apply List.ext_getElem?
      intro j
      have hx : ∀ j, j < l.length → l[j]? = some (nx l j) := fun j hj => by simp [nx, List.getD, hj]
      by_cases hj : j < l.length
      · have hsw : (swp l a b)[j]? = some (if j = i then nx l k else if j = k then nx l i else nx l j) := by
          have h3 : (swp l a b)[j]? = some (nx (swp l a b) j) := by simp [nx, List.getD, hj]
          rw [h3, nx_swp (by omega) hj]
          rcases hab with ⟨rfl, rfl⟩ | ⟨rfl, rfl⟩
          · by_cases c1 : b = j
            · subst c1; rw [if_pos rfl, if_neg (by omega), if_pos rfl]
            · rw [if_neg c1]
              by_cases c2 : a = j
              · subst c2; rw [if_pos rfl, if_pos rfl]
              · rw [if_neg c2, if_neg (Ne.symm c2), if_neg (Ne.symm c1)]
          · by_cases c1 : b = j
            · subst c1; rw [if_pos rfl, if_pos rfl]
            · rw [if_neg c1, if_neg (Ne.symm c1)]
              by_cases c2 : a = j
              · subst c2; simp
              · rw [if_neg c2, if_neg (Ne.symm c2)]
        rw [hsw]
        by_cases c1 : j < i
        · rw [List.getElem?_append_left (by simp; omega), List.getElem?_take_of_lt c1, hx j hj, if_neg (by omega), if_neg (by omega)]
        · rw [List.getElem?_append_right (by simp; omega)]
          simp only [List.length_take]
          rw [show min i l.length = i by omega]
          by_cases c2 : j = i
          · subst c2; simp
          · obtain ⟨d, hd⟩ : ∃ d, j - i = d + 1 := ⟨j - i - 1, by omega⟩
            rw [hd, List.getElem?_cons_succ, if_neg c2]
            by_cases c3 : j < k
            · rw [List.getElem?_append_left (by simp; omega), List.getElem?_take_of_lt (by omega), List.getElem?_drop, show i + 1 + d = j by omega, hx j hj, if_neg (by omega)]
            · rw [List.getElem?_append_right (by simp; omega)]
              simp only [List.length_take, List.length_drop]
              rw [show d - min (k - (i + 1)) (l.length - (i + 1)) = j - k by omega]
              by_cases c4 : j = k
              · subst c4; simp
              · obtain ⟨q, hq⟩ : ∃ q, j - k = q + 1 := ⟨j - k - 1, by omega⟩
                rw [hq, List.getElem?_cons_succ, List.getElem?_drop, show i + 1 + (k - (i + 1) + 1) + q = j by omega, hx j hj, if_neg c4]
      · rw [List.getElem?_eq_none (by simp; omega), List.getElem?_eq_none]
        simp only [List.length_append, List.length_cons, List.length_take, List.length_drop]; omega
    constructor
    · rw [hs i k (.inl ⟨rfl, rfl⟩)]
      conv => lhs; rw [hl]
      exact indep_swp
    · rw [hs k i (.inr ⟨rfl, rfl⟩)]
      conv => lhs; rw [hl]
      exact indep_swp
  rcases Nat.lt_trichotomy i k with h | h | h
  · exact (key i k h hk).1
  · subst h
    have : swp l i i = l := list_ext_nx (by simp) fun j hj => by
      rw [nx_swp hi (by simpa using hj)]
      split
      · rename_i h; rw [h]
      · rfl
    rw [this]
  · exact (key k i h hi).2
theorem clrN_indep {n b rk : Nat} {l : List Nat} (hl : l.length = n) (hrk : rk < n) : Indep l ↔ Indep (clrN b rk (nx l rk) l n) := by
  have h1 := split_at (l := l) (i := rk) (by omega)
  have h2 : clrN b rk (nx l rk) l n = (l.take rk).map (fun y => if y.testBit b then y ^^^ nx l rk else y) ++ nx l rk :: (l.drop (rk + 1)).map (fun y => if y.testBit b then y ^^^ nx l rk else y) := by
    apply List.ext_getElem?
    intro j
    by_cases hj : j < l.length
    · have h3 : (clrN b rk (nx l rk) l n)[j]? = some (nx (clrN b rk (nx l rk) l n) j) := by simp [nx, List.getD, hj]
      rw [h3, nx_clrN hj]
      have hx : l[j]? = some (nx l j) := by simp [nx, List.getD, hj]
      by_cases c1 : j < rk
      · rw [List.getElem?_append_left (by simp; omega), List.getElem?_map, List.getElem?_take_of_lt c1, hx]
        simp only [Option.map_some]
        by_cases hb : (nx l j).testBit b = true
        · rw [if_pos ⟨by omega, by omega, hb⟩, if_pos hb]
        · rw [if_neg fun h => hb h.2.2, if_neg hb]
      · rw [List.getElem?_append_right (by simp; omega)]
        simp only [List.length_map, List.length_take]
        rw [show min rk l.length = rk by omega]
        by_cases c2 : j = rk
        · subst c2; simp
        · obtain ⟨d, hd⟩ : ∃ d, j - rk = d + 1 := ⟨j - rk - 1, by omega⟩
          rw [hd, List.getElem?_cons_succ, List.getElem?_map, List.getElem?_drop, show rk + 1 + d = j by omega, hx]
          simp only [Option.map_some]
          by_cases hb : (nx l j).testBit b = true
          · rw [if_pos ⟨by omega, c2, hb⟩, if_pos hb]
          · rw [if_neg fun h => hb h.2.2, if_neg hb]
    · rw [List.getElem?_eq_none (by simp; omega), List.getElem?_eq_none]
      simp only [List.length_append, List.length_cons, List.length_map, List.length_take, List.length_drop]; omega
  rw [h2]
  conv => lhs; rw [h1]
  rw [indep_perm_swap, indep_add (f := fun y => y.testBit b), List.map_append, ← indep_perm_swap]
theorem rkR_indep {n : Nat} {l : List Nat} (hl : l.length = n) : ∀ b, Indep l ↔ Indep (rkR n l b).1
  | 0 => Iff.rfl
  | b + 1 => by
    rw [rkR_indep hl b]
    have hlen : (rkR n l b).1.length = n := by rw [rkR_length]; exact hl
    obtain ⟨p, hp⟩ := rkR_piv hl b
    rw [rkR]
    rcases rstep_at (b := b) hlen hp.le with ⟨h1, _⟩ | ⟨h1, h2, _⟩
    · rw [rstep, if_pos h1]
    · rw [rstep, if_neg (by omega)]
      have e : nx (rkR n l b).1 (atR b n (rkR n l b)) = nx (swp (rkR n l b).1 (atR b n (rkR n l b)) (rkR n l b).2) (rkR n l b).2 := by rw [nx_swp (by omega) (by omega), if_pos rfl]
      dsimp only
      rw [e, ← clrN_indep (by simpa using hlen) (by omega), ← swp_indep (by omega) (by omega)]
/-- Only one row has the bit. -/
theorem parS_one {j : Nat} : ∀ (s : List Bool) (r : List Nat) (i : Nat), s.length = r.length → (∀ k, k < r.length → (nx r k).testBit j = decide (k = i)) → parS s r j = s.getD i false
  | [], [], i, _, _ => by simp [parS]
  | c :: s, x :: r, i, hs, h => by
    have h0 : x.testBit j = decide (0 = i) := by simpa [nx] using h 0 (by simp)
    have hr : ∀ k, k < r.length → (nx r k).testBit j = decide (k + 1 = i) := fun k hk => by
      have := h (k + 1) (by simpa using hk)
      simpa [nx] using this
    cases i with
    | zero =>
      have hz : parS s r j = false := by
        have := parS_one s r r.length (by simpa using hs) fun k hk => by rw [hr k hk]; simp; omega
        rw [this]
        have : s.length ≤ r.length := by have := hs; simp at this; omega
        simp [List.getD, this]
      simp [parS, h0, hz]
    | succ i =>
      have := parS_one s r i (by simpa using hs) fun k hk => by rw [hr k hk]; simp
      simp only [parS, h0, this]
      simp
theorem nx_mem {l : List Nat} {x : Nat} (h : x ∈ l) : ∃ i, i < l.length ∧ nx l i = x := by
  obtain ⟨i, hi, e⟩ := List.getElem_of_mem h
  exact ⟨i, hi, by simp [nx, List.getD, hi, e]⟩
/-- The reference's rank is whole exactly where the rows are independent. -/
theorem rkR_full {n k : Nat} {l : List Nat} (hl : l.length = n) (hb : ∀ i, i < n → nx l i < 2 ^ k) : (rkR n l k).2 = n ↔ Indep l := by
  rw [rkR_indep hl k]
  have hlen : (rkR n l k).1.length = n := by rw [rkR_length]; exact hl
  obtain ⟨p, hp⟩ := rkR_piv hl k
  constructor
  · intro hr s hs hz b hbm
    obtain ⟨i, hi, e⟩ := List.getElem_of_mem hbm
    have h1 := parS_one (j := p i) s _ i hs fun q hq => hp.one i (by omega) q (by omega)
    rw [hz] at h1
    simpa [List.getD, hi, e] using h1.symm
  · intro hi
    cases Nat.lt_or_ge (rkR n l k).2 n with
    | inr h => have := hp.le; omega
    | inl h =>
      exfalso
      have hbd := rkR_bound hl hb k
      have hz : ∀ j, (nx (rkR n l k).1 (rkR n l k).2).testBit j = false := fun j => by
        by_cases e : j < k
        · exact hp.zero _ (Nat.le_refl _) h j e
        · exact Nat.testBit_lt_two_pow (Nat.lt_of_lt_of_le (hbd _ h) (Nat.pow_le_pow_right (by omega) (by omega)))
      have hsp := split_at (l := (rkR n l k).1) (i := (rkR n l k).2) (by omega)
      rw [hsp, indep_perm_swap] at hi
      have := hi (true :: List.replicate ((rkR n l k).1.take (rkR n l k).2 ++ (rkR n l k).1.drop ((rkR n l k).2 + 1)).length false) (by simp) (fun j => by
        simp only [parS, hz j, Bool.and_false, Bool.false_xor]
        exact parS_zero _ _ _ fun b hb => (List.mem_replicate.1 hb).2) true (by simp)
      cases this
/-- Every map of full rank is reached from the identity. -/
theorem full_reach {n : Nat} {l : List Nat} (hl : l.length = n) (hb : ∀ i, i < n → nx l i < 2 ^ n) (hi : Indep l) : Reach n (n * (n + 3)) (idL n) l := by
  have hr := (rkR_full hl hb).2 hi
  have := rkR_reach hl n
  rw [rkR_id hl hb hr] at this
  exact this.symm hl

end Go.Proofs.Yteehfidjofcfmaa
/- Plain laws: the Gray network. -/
set_option linter.unusedSimpArgs false
set_option linter.unusedVariables false
namespace Go.Proofs.Yteehfidjofcfmaa
open Go Go.RowKit
/-- The sum of the rows at the bits of v. -/
def evx (R : List Nat) (v : Nat) : Nat → Nat
  | 0 => 0
  | q + 1 => evx R v q ^^^ (if v.testBit q then nx R q else 0)
theorem nx_cx' {R : List Nat} {j t : Nat} (q : Nat) (ht : t < R.length) : nx (cx R (j, t)) q = if q = t then nx R t ^^^ nx R j else nx R q := by
  by_cases h : q < R.length
  · rw [nx_cx h]
    by_cases e : q = t
    · subst e; simp
    · rw [if_neg (fun h => e h.symm), if_neg e]
  · rw [nx_ge (by rw [cx_length]; omega), if_neg (by omega), nx_ge (by omega)]
theorem evx_cx {R : List Nat} {j t : Nat} (ht : t < R.length) (v : Nat) : ∀ q, evx (cx R (j, t)) v q = evx R v q ^^^ (if t < q ∧ v.testBit t = true then nx R j else 0)
  | 0 => by simp [evx]
  | q + 1 => by
    rw [evx, evx, evx_cx ht v q, nx_cx' q ht]
    by_cases e : q = t
    · subst e
      rw [if_neg (show ¬ (q < q ∧ v.testBit q = true) by omega), if_pos rfl]
      cases hb : v.testBit q with
      | false => simp
      | true => simp [Nat.xor_assoc]
    · rw [if_neg e]
      have h2 : (t < q + 1 ∧ v.testBit t = true) ↔ (t < q ∧ v.testBit t = true) := ⟨fun ⟨a, b⟩ => ⟨by omega, b⟩, fun ⟨a, b⟩ => ⟨by omega, b⟩⟩
      simp only [h2]
      rw [Nat.xor_assoc, Nat.xor_comm (if t < q ∧ v.testBit t = true then nx R j else 0), ← Nat.xor_assoc]
theorem evx_flip {R : List Nat} {j : Nat} (v : Nat) : ∀ q, evx R (v ^^^ 2 ^ j) q = evx R v q ^^^ (if j < q then nx R j else 0)
  | 0 => by simp [evx]
  | q + 1 => by
    rw [evx, evx, evx_flip v q, Nat.testBit_xor, Nat.testBit_two_pow]
    by_cases e : j = q
    · subst e
      rw [if_neg (Nat.lt_irrefl _), if_pos (Nat.lt_succ_self _)]
      cases v.testBit j <;> simp [Nat.xor_assoc]
    · have h2 : (j < q + 1) ↔ (j < q) := by omega
      simp only [decide_eq_false e, Bool.xor_false, h2]
      rw [Nat.xor_assoc, Nat.xor_comm (if j < q then nx R j else 0), ← Nat.xor_assoc]
def addV (j t v : Nat) : Nat := if v.testBit t then v ^^^ 2 ^ j else v
theorem evx_add {R : List Nat} {n j t : Nat} (hl : R.length = n) (hj : j < n) (ht : t < n) (hne : j ≠ t) (v : Nat) : evx (cx R (j, t)) (addV j t v) n = evx R v n := by
  unfold addV
  cases hb : v.testBit t with
  | false =>
    rw [if_neg (by decide), evx_cx (by omega), if_neg (by rw [hb]; simp), Nat.xor_zero]
  | true =>
    rw [if_pos rfl, evx_flip, if_pos hj, evx_cx (by omega), if_pos ⟨ht, hb⟩, nx_cx' j (by omega), if_neg hne, Nat.xor_assoc, Nat.xor_self, Nat.xor_zero]
theorem addV_bit {j t v q : Nat} : (addV j t v).testBit q = (v.testBit q ^^ (decide (j = q) && v.testBit t)) := by
  unfold addV
  cases hb : v.testBit t with
  | false => simp
  | true => rw [if_pos rfl, Nat.testBit_xor, Nat.testBit_two_pow]; simp
theorem addV_lt {n j t v : Nat} (hj : j < n) (h : v < 2 ^ n) : addV j t v < 2 ^ n := by
  unfold addV
  split
  · exact Nat.xor_lt_two_pow h (Nat.pow_lt_pow_right (by omega) hj)
  · exact h
theorem evx_zero (R : List Nat) : ∀ q, evx R 0 q = 0
  | 0 => rfl
  | q + 1 => by rw [evx, evx_zero R q]; simp
theorem evx_pow {R : List Nat} {t n : Nat} (ht : t < n) : evx R (2 ^ t) n = nx R t := by
  have h := evx_flip (R := R) (j := t) 0 n
  rw [Nat.zero_xor, evx_zero, if_pos ht, Nat.zero_xor] at h
  exact h
theorem idL_ev {n v : Nat} (h : v < 2 ^ n) : evx (idL n) v n = v := by
  have key : ∀ q, q ≤ n → ∀ i, (evx (idL n) v q).testBit i = (decide (i < q) && v.testBit i) := by
    intro q
    induction q with
    | zero => intro _ i; simp [evx]
    | succ q ih =>
      intro hq i
      rw [evx, Nat.testBit_xor, ih (by omega), nx_idL (by omega)]
      cases hb : v.testBit q with
      | false =>
        rw [if_neg (by decide), Nat.zero_testBit, Bool.xor_false]
        by_cases e : i = q
        · subst e; rw [hb]; simp
        · have : (i < q + 1) ↔ (i < q) := by omega
          simp only [this]
      | true =>
        rw [if_pos rfl, Nat.testBit_two_pow]
        by_cases e : i = q
        · subst e; rw [hb]; simp
        · have : (i < q + 1) ↔ (i < q) := by omega
          rw [show decide (q = i) = false from decide_eq_false fun h => e h.symm]
          simp only [this, Bool.xor_false]
  refine Nat.eq_of_testBit_eq fun i => ?_
  rw [key n (Nat.le_refl _)]
  by_cases hi : i < n
  · simp [hi]
  · rw [Nat.testBit_lt_two_pow (Nat.lt_of_lt_of_le h (Nat.pow_le_pow_right (by omega) (by omega)))]; simp
/-- A task: its vectors, its free qubits, its target (or -1). -/
abbrev GT := List Nat × List Nat × Int
def addT (j t : Nat) (T : GT) : GT := (T.1.map (addV j t), T.2)
abbrev GS := List (Nat × Nat) × List GT × List Nat
/-- The gates for the qubits below j. -/
def gj (t : Nat) : Nat → GS → GS
  | 0, s => s
  | j + 1, s => if j ≠ t ∧ ((gj t j s).2.2.all fun v => v.testBit j) = true then ((gj t j s).1 ++ [(j, t)], (gj t j s).2.1.map (addT j t), (gj t j s).2.2.map (addV j t)) else gj t j s
def st1 (vs : List Nat) (j : Nat) : List Nat := vs.filter fun v => v.testBit j
def st0 (vs : List Nat) (j : Nat) : List Nat := vs.filter fun v => !v.testBit j
def szJ (vs : List Nat) (j : Nat) : Nat := max (st1 vs j).length (st0 vs j).length
def brF (vs : List Nat) (b : Int × Int) (j : Nat) : Int × Int := if ((szJ vs j : Nat) : Int) > b.2 then ((j : Int), ((szJ vs j : Nat) : Int)) else b
/-- The qubit on which a task is split. -/
def brn (vs fr : List Nat) : Int := (fr.foldl (brF vs) (-1, -1)).1
def gfin (t : Int) (s : GS) (fr : List Nat) : List (Nat × Nat) × List GT :=
  if brn s.2.2 fr < 0 then (s.1, s.2.1) else (s.1, s.2.1 ++ [(st1 s.2.2 (brn s.2.2 fr).toNat, fr.erase (brn s.2.2 fr).toNat, if t < 0 then brn s.2.2 fr else t), (st0 s.2.2 (brn s.2.2 fr).toNat, fr.erase (brn s.2.2 fr).toNat, t)])
def gadd (n : Nat) (G : List (Nat × Nat)) (S : List GT) (x : GT) : GS := if 0 ≤ x.2.2 then gj x.2.2.toNat n (G, S, x.1) else (G, S, x.1)
def gstp (n : Nat) (G : List (Nat × Nat)) (S : List GT) (x : GT) : List (Nat × Nat) × List GT := if x.1 = [] then (G, S) else gfin x.2.2 (gadd n G S x) x.2.1
def grun (n : Nat) : Nat → List (Nat × Nat) × List GT → List (Nat × Nat) × List GT
  | 0, s => s
  | f + 1, s => match s.2.getLast? with
    | none => s
    | some x => grun n f (gstp n s.1 s.2.dropLast x)
def gI (n : Nat) (ms : List Nat) : List (Nat × Nat) × List GT := ([], [(ms, List.range n, -1)])
/-- The gates of the network. -/
def gG (n : Nat) (ms : List Nat) : List (Nat × Nat) := (grun n (2 ^ (n + 1)) (gI n ms)).1
def mu (S : List GT) : Nat := (S.map fun T => 2 ^ (T.2.1.length + 1) - 1).sum
theorem mu_snoc (S : List GT) (x : GT) : mu (S ++ [x]) = mu S + (2 ^ (x.2.1.length + 1) - 1) := by simp [mu]
theorem mu_map (j t : Nat) (S : List GT) : mu (S.map (addT j t)) = mu S := by simp [mu, addT, Function.comp_def]
theorem grun_snoc (n f : Nat) (G : List (Nat × Nat)) (S : List GT) (x : GT) : grun n (f + 1) (G, S ++ [x]) = grun n f (gstp n G S x) := by
  rw [grun]; simp
theorem grun_nil (n : Nat) (G : List (Nat × Nat)) : ∀ f, grun n f (G, []) = (G, [])
  | 0 => rfl
  | f + 1 => by rw [grun]; rfl
theorem brn_cases (vs : List Nat) : ∀ (fr : List Nat), fr ≠ [] → ∃ j ∈ fr, brn vs fr = (j : Int) := by
  have key : ∀ (fr : List Nat) (b : Int × Int), (fr.foldl (brF vs) b).1 = b.1 ∨ ∃ j ∈ fr, (fr.foldl (brF vs) b).1 = (j : Int) := by
    intro fr
    induction fr with
    | nil => intro b; exact .inl rfl
    | cons a fr ih =>
      intro b
      rw [List.foldl_cons]
      rcases ih (brF vs b a) with h | ⟨j, hj, h⟩
      · unfold brF at h
        split at h
        · rename_i hc
          refine .inr ⟨a, by simp, ?_⟩
          unfold brF
          rw [if_pos hc]; exact h
        · rename_i hc
          left
          unfold brF
          rw [if_neg hc]; exact h
      · exact .inr ⟨j, by simp [hj], h⟩
  intro fr hne
  obtain ⟨a, fr', rfl⟩ := List.exists_cons_of_ne_nil hne
  have h1 : brF vs (-1, -1) a = ((a : Int), ((szJ vs a : Nat) : Int)) := by
    unfold brF; rw [if_pos]; show (-1 : Int) < _; omega
  rcases key fr' (brF vs (-1, -1) a) with h | ⟨j, hj, h⟩
  · exact ⟨a, by simp, by rw [brn, List.foldl_cons, h, h1]⟩
  · exact ⟨j, by simp [hj], by rw [brn, List.foldl_cons, h]⟩
theorem brn_nil (vs : List Nat) : brn vs [] = -1 := rfl
/-- A mask appears. -/
def App (n : Nat) (G : List (Nat × Nat)) (m : Nat) : Prop := ∃ k q, k ≤ G.length ∧ q < n ∧ nx (cxs (idL n) (G.take k)) q = m
theorem App.snoc {n m : Nat} {G : List (Nat × Nat)} (e : Nat × Nat) (h : App n G m) : App n (G ++ [e]) m := by
  obtain ⟨k, q, h1, h2, h3⟩ := h
  exact ⟨k, q, by rw [List.length_append]; omega, h2, by rw [List.take_append_of_le_length h1]; exact h3⟩
structure TOk (n : Nat) (T : GT) : Prop where
  nd : T.2.1.Nodup
  lt : ∀ j ∈ T.2.1, j < n
  small : ∀ v ∈ T.1, v < 2 ^ n
  agree : ∀ q, q < n → q ∉ T.2.1 → ∀ v ∈ T.1, ∀ w ∈ T.1, v.testBit q = w.testBit q
  low : -1 ≤ T.2.2
  tgt : 0 ≤ T.2.2 → T.2.2.toNat < n ∧ T.2.2.toNat ∉ T.2.1 ∧ ∀ v ∈ T.1, v.testBit T.2.2.toNat = true
  zero : T.2.2 < 0 → ∀ v ∈ T.1, ∀ q, q < n → q ∉ T.2.1 → v.testBit q = false
/-- A task and one above it. -/
structure Rel (n : Nat) (S U : GT) : Prop where
  pos : 0 ≤ S.2.2
  sub : ∀ j ∈ U.2.1, j ∈ S.2.1
  kind : U.2.2 = S.2.2 ∨ ((∀ v ∈ U.1, ∀ q, q < n → q ∉ S.2.1 → v.testBit q = false) ∧ (U.2.2 < 0 ∨ U.2.2.toNat ∈ S.2.1))
structure GI (n : Nat) (ms : List Nat) (G : List (Nat × Nat)) (S : List GT) : Prop where
  gok : WOk n G
  tok : ∀ T ∈ S, TOk n T
  rel : S.Pairwise (Rel n)
  cov : ∀ m ∈ ms, (∃ T ∈ S, ∃ v ∈ T.1, evx (cxs (idL n) G) v n = m) ∨ App n G m
theorem rows_len (n : Nat) (G : List (Nat × Nat)) : (cxs (idL n) G).length = n := by rw [cxs_length]; simp [idL]
/-- One gate of the task on top. -/
theorem GI.gate {n : Nat} {ms : List Nat} {G : List (Nat × Nat)} {S : List GT} {W : GT} {j t : Nat} (h : GI n ms G (S ++ [W])) (hj : j < n) (ht : W.2.2 = (t : Int)) (hne : j ≠ t) (hw : W.1 ≠ []) (hall : ∀ v ∈ W.1, v.testBit j = true) :
    GI n ms (G ++ [(j, t)]) (S.map (addT j t) ++ [addT j t W]) := by
  have hW := h.tok W (by simp)
  have htg := hW.tgt (by omega)
  have htn : t < n := by have := htg.1; rw [ht] at this; simpa using this
  have htb : ∀ v ∈ W.1, v.testBit t = true := fun v hv => by have := htg.2.2 v hv; rw [ht] at this; simpa using this
  obtain ⟨v0, hv0⟩ := List.exists_mem_of_ne_nil _ hw
  have hrel := (List.pairwise_append.1 h.rel)
  have hrw : ∀ T ∈ S, Rel n T W := fun T hT => hrel.2.2 T hT W (by simp)
  -- j is free in a lower task of the second kind
  have hfree : ∀ T ∈ S, W.2.2 ≠ T.2.2 → j ∈ T.2.1 := by
    intro T hT hk
    rcases (hrw T hT).kind with h1 | ⟨h1, _⟩
    · exact absurd h1 hk
    · refine Decidable.byContradiction fun hn => ?_
      have := h1 v0 hv0 j hj hn
      rw [hall v0 hv0] at this; cases this
  have hTok : ∀ T ∈ S, TOk n (addT j t T) := by
    intro T hT
    have hK := h.tok T (by simp [hT])
    have hR := hrw T hT
    have hp := hK.tgt hR.pos
    refine ⟨hK.nd, hK.lt, ?_, ?_, hK.low, fun _ => ⟨hp.1, hp.2.1, ?_⟩, fun hn => absurd hR.pos (by show ¬ (0 ≤ T.2.2); exact Int.not_le.2 hn)⟩
    · intro v hv
      obtain ⟨u, hu, rfl⟩ := List.mem_map.1 hv
      exact addV_lt hj (hK.small u hu)
    · intro q hq hqf v hv w hw
      obtain ⟨u, hu, rfl⟩ := List.mem_map.1 hv
      obtain ⟨x, hx, rfl⟩ := List.mem_map.1 hw
      rw [addV_bit, addV_bit, hK.agree q hq hqf u hu x hx]
      by_cases e : j = q
      · subst e
        by_cases hk : W.2.2 = T.2.2
        · have h1 := hp.2.2 u hu
          have h2 := hp.2.2 x hx
          rw [← hk, ht] at h1 h2
          simp only [Int.toNat_natCast] at h1 h2
          rw [h1, h2]
        · exact absurd (hfree T hT hk) hqf
      · rw [decide_eq_false e]; simp
    · intro v hv
      obtain ⟨u, hu, rfl⟩ := List.mem_map.1 hv
      rw [addV_bit]
      have h1 := hp.2.2 u hu
      have h2 : j ≠ T.2.2.toNat := by
        intro e
        by_cases hk : W.2.2 = T.2.2
        · rw [← hk, ht] at e; simp only [Int.toNat_natCast] at e; exact hne e
        · have := hfree T hT hk
          rw [e] at this; exact hp.2.1 this
      show (u.testBit T.2.2.toNat ^^ (decide (j = T.2.2.toNat) && u.testBit t)) = true
      rw [h1, decide_eq_false h2]; rfl
  refine ⟨?_, ?_, ?_, ?_⟩
  · intro e he
    rcases List.mem_append.1 he with he | he
    · exact h.gok e he
    · simp only [List.mem_singleton] at he; subst he; exact ⟨hj, htn, hne⟩
  · intro T hT
    rcases List.mem_append.1 hT with hT | hT
    · obtain ⟨U, hU, rfl⟩ := List.mem_map.1 hT
      exact hTok U hU
    · simp only [List.mem_singleton] at hT; subst hT
      refine ⟨hW.nd, hW.lt, ?_, ?_, hW.low, fun _ => ⟨htg.1, htg.2.1, ?_⟩, fun hn => absurd (show W.2.2 < 0 from hn) (by omega)⟩
      · intro v hv
        obtain ⟨u, hu, rfl⟩ := List.mem_map.1 hv
        exact addV_lt hj (hW.small u hu)
      · intro q hq hqf v hv w hw
        obtain ⟨u, hu, rfl⟩ := List.mem_map.1 hv
        obtain ⟨x, hx, rfl⟩ := List.mem_map.1 hw
        rw [addV_bit, addV_bit, hW.agree q hq hqf u hu x hx, htb u hu, htb x hx]
      · intro v hv
        obtain ⟨u, hu, rfl⟩ := List.mem_map.1 hv
        rw [addV_bit]
        show (u.testBit W.2.2.toNat ^^ (decide (j = W.2.2.toNat) && u.testBit t)) = true
        rw [htg.2.2 u hu, ht, Int.toNat_natCast, decide_eq_false hne]; rfl
  · rw [List.pairwise_append]
    refine ⟨?_, by simp, ?_⟩
    · rw [List.pairwise_map]
      refine List.Pairwise.imp_of_mem ?_ hrel.1
      intro T U hT hU hR
      refine ⟨hR.pos, hR.sub, ?_⟩
      rcases hR.kind with h1 | ⟨h1, h2⟩
      · exact .inl h1
      · refine .inr ⟨fun v hv q hq hqf => ?_, h2⟩
        obtain ⟨u, hu, rfl⟩ := List.mem_map.1 hv
        rw [addV_bit, h1 u hu q hq hqf]
        by_cases e : j = q
        · subst e
          by_cases hk : W.2.2 = T.2.2
          · have hp := (h.tok T (by simp [hT])).tgt hR.pos
            have h3 := h1 u hu T.2.2.toNat hp.1 hp.2.1
            rw [← hk, ht, Int.toNat_natCast] at h3
            rw [h3]; simp
          · exact absurd (hfree T hT hk) hqf
        · rw [decide_eq_false e]; rfl
    · intro T hT U hU
      simp only [List.mem_singleton] at hU; subst hU
      obtain ⟨Y, hY, rfl⟩ := List.mem_map.1 hT
      have hR := hrw Y hY
      refine ⟨hR.pos, hR.sub, ?_⟩
      rcases hR.kind with h1 | ⟨h1, h2⟩
      · exact .inl h1
      · refine .inr ⟨fun v hv q hq hqf => ?_, h2⟩
        obtain ⟨u, hu, rfl⟩ := List.mem_map.1 hv
        rw [addV_bit, h1 u hu q hq hqf]
        by_cases e : j = q
        · subst e
          have := h1 v0 hv0 j hj hqf
          rw [hall v0 hv0] at this; cases this
        · rw [decide_eq_false e]; rfl
  · intro m hm
    rcases h.cov m hm with ⟨T, hT, v, hv, hev⟩ | ha
    · left
      have hee : evx (cxs (idL n) (G ++ [(j, t)])) (addV j t v) n = m := by
        rw [cxs_append]
        show evx (cx (cxs (idL n) G) (j, t)) _ n = m
        rw [evx_add (rows_len n G) hj htn hne]; exact hev
      rcases List.mem_append.1 hT with hT | hT
      · exact ⟨addT j t T, List.mem_append.2 (.inl (List.mem_map.2 ⟨T, hT, rfl⟩)), addV j t v, List.mem_map.2 ⟨v, hv, rfl⟩, hee⟩
      · simp only [List.mem_singleton] at hT; subst hT
        exact ⟨addT j t T, by simp, addV j t v, List.mem_map.2 ⟨v, hv, rfl⟩, hee⟩
    · exact .inr (ha.snoc _)
/-- The top is dropped: its masks have appeared or there are none. -/
theorem GI.drop {n : Nat} {ms : List Nat} {G : List (Nat × Nat)} {S : List GT} {W : GT} (h : GI n ms G (S ++ [W])) (hw : ∀ v ∈ W.1, ∀ m ∈ ms, evx (cxs (idL n) G) v n = m → App n G m) : GI n ms G S := by
  refine ⟨h.gok, fun T hT => h.tok T (by simp [hT]), (List.pairwise_append.1 h.rel).1, fun m hm => ?_⟩
  rcases h.cov m hm with ⟨T, hT, v, hv, hev⟩ | ha
  · rcases List.mem_append.1 hT with hT | hT
    · exact .inl ⟨T, hT, v, hv, hev⟩
    · simp only [List.mem_singleton] at hT; subst hT
      exact .inr (hw v hv m hm hev)
  · exact .inr ha
theorem st1_mem {vs : List Nat} {j v : Nat} : v ∈ st1 vs j ↔ v ∈ vs ∧ v.testBit j = true := by simp [st1]
theorem st0_mem {vs : List Nat} {j v : Nat} : v ∈ st0 vs j ↔ v ∈ vs ∧ v.testBit j = false := by simp [st0]
/-- The top is split. -/
theorem GI.split {n : Nat} {ms : List Nat} {G : List (Nat × Nat)} {S : List GT} {vs fr : List Nat} {t : Int} {b : Nat} (h : GI n ms G (S ++ [(vs, fr, t)])) (hb : b ∈ fr) :
    GI n ms G (S ++ [(st1 vs b, fr.erase b, if t < 0 then (b : Int) else t), (st0 vs b, fr.erase b, t)]) := by
  have hW := h.tok (vs, fr, t) (by simp)
  have hp := List.pairwise_append.1 h.rel
  have hbn := hW.lt b hb
  have hmem : ∀ q, q ∈ fr.erase b ↔ q ≠ b ∧ q ∈ fr := fun q => hW.nd.mem_erase_iff
  have hnb : ∀ q, q ∉ fr.erase b → q = b ∨ q ∉ fr := by
    intro q hq
    by_cases e : q = b
    · exact .inl e
    · exact .inr fun hf => hq ((hmem q).2 ⟨e, hf⟩)
  have h1 : TOk n (st1 vs b, fr.erase b, if t < 0 then (b : Int) else t) := by
    refine ⟨hW.nd.erase b, fun j hj => hW.lt j ((hmem j).1 hj).2, fun v hv => hW.small v (st1_mem.1 hv).1, ?_, ?_, ?_, ?_⟩
    · intro q hq hqf v hv w hw
      rcases hnb q hqf with rfl | hf
      · rw [(st1_mem.1 hv).2, (st1_mem.1 hw).2]
      · exact hW.agree q hq hf v (st1_mem.1 hv).1 w (st1_mem.1 hw).1
    · show -1 ≤ if t < 0 then (b : Int) else t
      split <;> omega
    · intro hpos
      by_cases ht : t < 0
      · simp only [if_pos ht, Int.toNat_natCast]
        exact ⟨hbn, fun hf => ((hmem b).1 hf).1 rfl, fun v hv => (st1_mem.1 hv).2⟩
      · simp only [if_neg ht]
        have htg := hW.tgt (show 0 ≤ t by omega)
        exact ⟨htg.1, fun hf => htg.2.1 ((hmem _).1 hf).2, fun v hv => htg.2.2 v (st1_mem.1 hv).1⟩
    · intro hneg
      exfalso
      have hneg : (if t < 0 then (b : Int) else t) < 0 := hneg
      split at hneg <;> omega
  have h0 : TOk n (st0 vs b, fr.erase b, t) := by
    refine ⟨hW.nd.erase b, fun j hj => hW.lt j ((hmem j).1 hj).2, fun v hv => hW.small v (st0_mem.1 hv).1, ?_, hW.low, ?_, ?_⟩
    · intro q hq hqf v hv w hw
      rcases hnb q hqf with rfl | hf
      · rw [(st0_mem.1 hv).2, (st0_mem.1 hw).2]
      · exact hW.agree q hq hf v (st0_mem.1 hv).1 w (st0_mem.1 hw).1
    · intro hpos
      have htg := hW.tgt hpos
      exact ⟨htg.1, fun hf => htg.2.1 ((hmem _).1 hf).2, fun v hv => htg.2.2 v (st0_mem.1 hv).1⟩
    · intro hneg v hv q hq hqf
      rcases hnb q hqf with rfl | hf
      · exact (st0_mem.1 hv).2
      · exact hW.zero hneg v (st0_mem.1 hv).1 q hq hf
  have h10 : Rel n (st1 vs b, fr.erase b, if t < 0 then (b : Int) else t) (st0 vs b, fr.erase b, t) := by
    refine ⟨?_, fun j hj => hj, ?_⟩
    · show 0 ≤ if t < 0 then (b : Int) else t
      split <;> omega
    · by_cases ht : t < 0
      · exact .inr ⟨fun v hv q hq hqf => h0.zero ht v hv q hq hqf, .inl ht⟩
      · left; show t = if t < 0 then (b : Int) else t
        rw [if_neg ht]
  have hR1 : ∀ T ∈ S, Rel n T (st1 vs b, fr.erase b, if t < 0 then (b : Int) else t) := by
    intro T hT
    have hR := hp.2.2 T hT (vs, fr, t) (by simp)
    refine ⟨hR.pos, fun j hj => hR.sub j ((hmem j).1 hj).2, ?_⟩
    rcases hR.kind with hk | ⟨hz, hk⟩
    · left
      have hk : t = T.2.2 := hk
      have := hR.pos
      show (if t < 0 then (b : Int) else t) = T.2.2
      rw [if_neg (by omega)]; exact hk
    · refine .inr ⟨fun v hv q hq hqf => hz v (st1_mem.1 hv).1 q hq hqf, .inr ?_⟩
      by_cases ht : t < 0
      · simp only [if_pos ht, Int.toNat_natCast]; exact hR.sub b hb
      · simp only [if_neg ht]
        rcases hk with hk | hk
        · exact absurd hk ht
        · exact hk
  have hR0 : ∀ T ∈ S, Rel n T (st0 vs b, fr.erase b, t) := by
    intro T hT
    have hR := hp.2.2 T hT (vs, fr, t) (by simp)
    refine ⟨hR.pos, fun j hj => hR.sub j ((hmem j).1 hj).2, ?_⟩
    rcases hR.kind with hk | ⟨hz, hk⟩
    · exact .inl hk
    · exact .inr ⟨fun v hv q hq hqf => hz v (st0_mem.1 hv).1 q hq hqf, hk⟩
  refine ⟨h.gok, ?_, ?_, fun m hm => ?_⟩
  · intro T hT
    simp only [List.mem_append, List.mem_cons, List.not_mem_nil, or_false] at hT
    rcases hT with hT | rfl | rfl
    · exact h.tok T (by simp [hT])
    · exact h1
    · exact h0
  · rw [List.pairwise_append]
    refine ⟨hp.1, by simp [h10], fun T hT U hU => ?_⟩
    simp only [List.mem_cons, List.not_mem_nil, or_false] at hU
    rcases hU with rfl | rfl
    · exact hR1 T hT
    · exact hR0 T hT
  · rcases h.cov m hm with ⟨T, hT, v, hv, hev⟩ | ha
    · left
      rcases List.mem_append.1 hT with hT | hT
      · exact ⟨T, by simp [hT], v, hv, hev⟩
      · simp only [List.mem_singleton] at hT; subst hT
        cases hvb : v.testBit b with
        | true => exact ⟨(st1 vs b, fr.erase b, if t < 0 then (b : Int) else t), by simp, v, st1_mem.2 ⟨hv, hvb⟩, hev⟩
        | false => exact ⟨(st0 vs b, fr.erase b, t), by simp, v, st0_mem.2 ⟨hv, hvb⟩, hev⟩
    · exact .inr ha
/-- The gates of a task. -/
theorem gj_ok {n : Nat} {ms : List Nat} {G : List (Nat × Nat)} {S : List GT} {vs fr : List Nat} {t : Nat} (h : GI n ms G (S ++ [(vs, fr, (t : Int))])) (hv : vs ≠ []) : ∀ j, j ≤ n →
    GI n ms (gj t j (G, S, vs)).1 ((gj t j (G, S, vs)).2.1 ++ [((gj t j (G, S, vs)).2.2, fr, (t : Int))]) ∧ (gj t j (G, S, vs)).2.2 ≠ [] ∧ (∀ i, i < j → i ≠ t → ∃ v ∈ (gj t j (G, S, vs)).2.2, v.testBit i = false) ∧
    mu (gj t j (G, S, vs)).2.1 = mu S ∧ (gj t j (G, S, vs)).1.length + (if t < j then 1 else 0) ≤ G.length + j
  | 0, _ => ⟨h, hv, fun i hi => absurd hi (by omega), rfl, by simp [gj]⟩
  | j + 1, hj => by
    obtain ⟨h1, h2, h3, h4, h5⟩ := gj_ok h hv j (by omega)
    rw [gj]
    split
    · rename_i hc
      have hall : ∀ v ∈ (gj t j (G, S, vs)).2.2, v.testBit j = true := List.all_eq_true.1 hc.2
      refine ⟨h1.gate (by omega) rfl hc.1 h2 hall, by simpa using h2, ?_, by rw [mu_map]; exact h4, ?_⟩
      · intro i hi hit
        have htb := (h1.tok _ (List.mem_append.2 (.inr (List.mem_singleton.2 rfl)))).tgt (Int.natCast_nonneg _)
        by_cases e : i = j
        · subst e
          obtain ⟨v, hvm⟩ := List.exists_mem_of_ne_nil _ h2
          refine ⟨addV i t v, List.mem_map.2 ⟨v, hvm, rfl⟩, ?_⟩
          have := htb.2.2 v hvm
          simp only [Int.toNat_natCast] at this
          rw [addV_bit, hall v hvm, this]; simp
        · obtain ⟨v, hvm, hvb⟩ := h3 i (by omega) hit
          refine ⟨addV j t v, List.mem_map.2 ⟨v, hvm, rfl⟩, ?_⟩
          rw [addV_bit, hvb, decide_eq_false (fun h => e h.symm)]; rfl
      · rw [List.length_append]
        simp only [List.length_cons, List.length_nil]
        have := hc.1
        split <;> split at h5 <;> omega
    · rename_i hc
      refine ⟨h1, h2, ?_, h4, ?_⟩
      · intro i hi hit
        by_cases e : i = j
        · subst e
          refine Classical.byContradiction fun hno => hc ⟨hit, ?_⟩
          rw [List.all_eq_true]
          intro v hvm
          cases hb : v.testBit i with
          | true => rfl
          | false => exact absurd ⟨v, hvm, hb⟩ hno
        · exact h3 i (by omega) hit
      · split <;> split at h5 <;> omega
theorem gadd_ok {n : Nat} {ms : List Nat} {G : List (Nat × Nat)} {S : List GT} {vs fr : List Nat} {t : Int} (h : GI n ms G (S ++ [(vs, fr, t)])) (hv : vs ≠ []) :
    GI n ms (gadd n G S (vs, fr, t)).1 ((gadd n G S (vs, fr, t)).2.1 ++ [((gadd n G S (vs, fr, t)).2.2, fr, t)]) ∧ (gadd n G S (vs, fr, t)).2.2 ≠ [] ∧ (∀ i, i < n → 0 ≤ t → i ≠ t.toNat → ∃ v ∈ (gadd n G S (vs, fr, t)).2.2, v.testBit i = false) ∧
    mu (gadd n G S (vs, fr, t)).2.1 = mu S ∧ (gadd n G S (vs, fr, t)).1.length + 1 ≤ G.length + max n 1 := by
  unfold gadd
  by_cases ht : 0 ≤ t
  · rw [if_pos ht]
    obtain ⟨k, rfl⟩ : ∃ k : Nat, t = k := ⟨t.toNat, by omega⟩
    have htg := (h.tok _ (List.mem_append.2 (.inr (List.mem_singleton.2 rfl)))).tgt ht
    simp only [Int.toNat_natCast] at htg ⊢
    obtain ⟨h1, h2, h3, h4, h5⟩ := gj_ok h hv n (Nat.le_refl _)
    refine ⟨h1, h2, fun i hi _ => h3 i hi, h4, ?_⟩
    rw [if_pos htg.1] at h5
    omega
  · rw [if_neg ht]
    exact ⟨h, hv, fun i _ h0 => absurd h0 ht, rfl, by show G.length + 1 ≤ G.length + max n 1; omega⟩
theorem gstp_ok {n : Nat} {ms : List Nat} {G : List (Nat × Nat)} {S : List GT} {x : GT} (hms : ∀ m ∈ ms, 1 ≤ m) (hn5 : n ≤ 5) (h : GI n ms G (S ++ [x])) : GI n ms (gstp n G S x).1 (gstp n G S x).2 ∧ mu (gstp n G S x).2 < mu (S ++ [x]) ∧ (gstp n G S x).1.length + 4 * mu (gstp n G S x).2 ≤ G.length + 4 * mu (S ++ [x]) := by
  obtain ⟨vs, fr, t⟩ := x
  have hpow : ∀ k : Nat, 2 ^ (k + 1) = 2 * 2 ^ k ∧ 0 < 2 ^ k := fun k => ⟨by rw [Nat.pow_succ]; omega, Nat.two_pow_pos k⟩
  have hm := mu_snoc S (vs, fr, t)
  simp only at hm
  have hp := hpow fr.length
  unfold gstp
  by_cases hv : vs = []
  · rw [if_pos hv]
    refine ⟨h.drop fun v hvm => ?_, by show mu S < _; omega, by show G.length + 4 * mu S ≤ _; omega⟩
    have hvm : v ∈ vs := hvm
    rw [hv] at hvm; cases hvm
  · rw [if_neg hv]
    obtain ⟨h1, h2, h3, h4, h5⟩ := gadd_ok h hv
    generalize gadd n G S (vs, fr, t) = s at h1 h2 h3 h4 h5 ⊢
    obtain ⟨G', S', vs'⟩ := s
    simp only at h1 h2 h3 h4 h5 ⊢
    have hT := h1.tok (vs', fr, t) (by simp)
    unfold gfin
    by_cases hf : fr = []
    · subst hf
      rw [brn_nil, if_pos (by decide)]
      refine ⟨h1.drop fun v hvm m hmm hev => ?_, by show mu S' < _; simp only [List.length_nil] at hm hp; omega, by show G'.length + 4 * mu S' ≤ _; simp only [List.length_nil] at hm hp; omega⟩
      by_cases ht : 0 ≤ t
      · have htg := hT.tgt ht
        have hvb : ∀ q, v.testBit q = decide (q = t.toNat) := by
          intro q
          by_cases hq : q < n
          · by_cases e : q = t.toNat
            · rw [e, htg.2.2 v hvm]; simp
            · obtain ⟨u, hu, hub⟩ := h3 q hq ht e
              rw [hT.agree q hq (by simp) v hvm u hu, hub]; simp [e]
          · rw [Nat.testBit_lt_two_pow (Nat.lt_of_lt_of_le (hT.small v hvm) (Nat.pow_le_pow_right (by omega) (by omega)))]
            have h9 : t.toNat < n := htg.1
            rw [decide_eq_false (show ¬ q = t.toNat by omega)]
        have hvp : v = 2 ^ t.toNat := by
          refine Nat.eq_of_testBit_eq fun q => ?_
          rw [hvb, Nat.testBit_two_pow]
          by_cases e : q = t.toNat
          · simp [e]
          · rw [decide_eq_false e, decide_eq_false fun h => e h.symm]
        rw [hvp, evx_pow htg.1] at hev
        exact ⟨G'.length, t.toNat, Nat.le_refl _, htg.1, by rw [List.take_length]; exact hev⟩
      · exfalso
        have hv0 : v = 0 := by
          refine Nat.eq_of_testBit_eq fun q => ?_
          rw [Nat.zero_testBit]
          by_cases hq : q < n
          · exact hT.zero (by show t < 0; omega) v hvm q hq (by simp)
          · exact Nat.testBit_lt_two_pow (Nat.lt_of_lt_of_le (hT.small v hvm) (Nat.pow_le_pow_right (by omega) (by omega)))
        rw [hv0, evx_zero] at hev
        have := hms m hmm
        omega
    · obtain ⟨b, hb, hbe⟩ := brn_cases vs' fr hf
      rw [hbe, if_neg (by omega), Int.toNat_natCast]
      have hl : (fr.erase b).length = fr.length - 1 := List.length_erase_of_mem hb
      have hfl : 0 < fr.length := List.length_pos_iff.2 hf
      have he : mu (S' ++ [(st1 vs' b, fr.erase b, if t < 0 then (b : Int) else t), (st0 vs' b, fr.erase b, t)]) = mu S' + ((2 ^ fr.length - 1) + (2 ^ fr.length - 1)) := by
        unfold mu
        rw [List.map_append, List.sum_append]
        simp only [List.map_cons, List.map_nil, List.sum_cons, List.sum_nil, hl, Nat.sub_add_cancel hfl]
        omega
      have hq := hpow (fr.length - 1)
      rw [Nat.sub_add_cancel hfl] at hq
      refine ⟨h1.split hb, by show mu _ < _; rw [he]; omega, by show G'.length + 4 * mu _ ≤ _; rw [he]; omega⟩
theorem gI_ok {n : Nat} {ms : List Nat} (hlt : ∀ m ∈ ms, m < 2 ^ n) : GI n ms (gI n ms).1 (gI n ms).2 := by
  refine ⟨fun e he => by simp [gI] at he, ?_, by simp [gI], fun m hm => .inl ⟨(ms, List.range n, -1), by simp [gI], m, hm, idL_ev (hlt m hm)⟩⟩
  intro T hT
  simp only [gI, List.mem_singleton] at hT; subst hT
  refine ⟨List.nodup_range, fun j hj => List.mem_range.1 hj, hlt, fun q hq hf => absurd (List.mem_range.2 hq) hf, by show (-1 : Int) ≤ -1; omega, fun h => absurd h (by show ¬ (0 : Int) ≤ -1; omega), fun _ v _ q hq hf => absurd (List.mem_range.2 hq) hf⟩
theorem grun_ok {n : Nat} {ms : List Nat} (hms : ∀ m ∈ ms, 1 ≤ m) (h5 : n ≤ 5) : ∀ (f : Nat) (G : List (Nat × Nat)) (S : List GT), GI n ms G S → mu S ≤ f → (grun n f (G, S)).2 = [] ∧ GI n ms (grun n f (G, S)).1 [] ∧ (grun n f (G, S)).1.length ≤ G.length + 4 * mu S := by
  intro f
  induction f with
  | zero =>
    intro G S h hm
    have hS : S = [] := by
      cases S with
      | nil => rfl
      | cons a S =>
        exfalso
        have : 0 < 2 ^ a.2.1.length := Nat.two_pow_pos _
        have h2 : 2 ^ (a.2.1.length + 1) = 2 * 2 ^ a.2.1.length := by rw [Nat.pow_succ]; omega
        simp only [mu, List.map_cons, List.sum_cons] at hm
        omega
    subst hS
    exact ⟨rfl, h, by simp [grun]⟩
  | succ f ih =>
    intro G S h hm
    rcases List.eq_nil_or_concat S with rfl | ⟨S', x, rfl⟩
    · rw [grun_nil]; exact ⟨rfl, h, by simp⟩
    · rw [List.concat_eq_append] at h hm ⊢
      rw [grun_snoc]
      obtain ⟨h1, h2, h3⟩ := gstp_ok hms h5 h
      obtain ⟨h4, h6, h7⟩ := ih (gstp n G S' x).1 (gstp n G S' x).2 h1 (by omega)
      have h8 : (grun n f (gstp n G S' x)).1.length ≤ (gstp n G S' x).1.length + 4 * mu (gstp n G S' x).2 := h7
      exact ⟨h4, h6, by omega⟩
/-- The network: its gates are few, and all masks appear. -/
theorem gG_ok {n : Nat} {ms : List Nat} (hms : ∀ m ∈ ms, 1 ≤ m ∧ m < 2 ^ n) (h5 : n ≤ 5) : WOk n (gG n ms) ∧ (gG n ms).length ≤ 252 ∧ ∀ m ∈ ms, App n (gG n ms) m := by
  have hmu : mu (gI n ms).2 = 2 ^ (n + 1) - 1 := by simp [gI, mu]
  have hp : 2 ^ (n + 1) ≤ 64 := Nat.pow_le_pow_right (n := 2) (by omega) (show n + 1 ≤ 6 by omega)
  obtain ⟨_, h2, h3⟩ := grun_ok (fun m hm => (hms m hm).1) h5 (2 ^ (n + 1)) (gI n ms).1 (gI n ms).2 (gI_ok fun m hm => (hms m hm).2) (by rw [hmu]; exact Nat.sub_le _ _)
  refine ⟨h2.gok, ?_, fun m hm => ?_⟩
  · rw [hmu] at h3
    have e : (gI n ms).1.length = 0 := rfl
    have h4 : (gG n ms).length ≤ (gI n ms).1.length + 4 * (2 ^ (n + 1) - 1) := h3
    omega
  · rcases h2.cov m hm with ⟨T, hT, _⟩ | ha
    · cases hT
    · exact ha

end Go.Proofs.Yteehfidjofcfmaa
/-
  DERIVED: THE SHELF's CONTRACTS AT THIS DUMP, IN PLAIN WORDS (tools/lay-plain.mjs out of 'TryShelf.lean', which tools/lay-shelf.mjs wrote): THE SAME DECLARATIONS UNDER THE SAME NAMES: 'import', 'namespace', 'open', 'def', 'theorem' AND NOTHING ELSE: no command of the shelf's: FOR A HAND-IN. Each laying: the table of numbers ('.._ren') and one theorem, a field a fact of the dump's own or the kernel's comparison; each contract: ONE APPLICATION.
-/
namespace Go.Proofs
open Go.Shelf
def Try.laysNm215_ren : Go.Shelf.Ren := ⟨fun | 15 => 109 | n => n, fun | 22 => 22 | 3 => 3 | 4 => 4 | n => n, fun | n => n⟩
theorem Try.laysNm215 : Go.Proofs.Lays2.n15 Try.prog Try.laysNm215_ren := {
  mixed := by kernel_rfl
  f15 := Try.func109.trans (congrArg some (by kernel_rfl))
  t3 := Try.underlying3
  a3 := Try.isAgg3
  z3 := Try.sizeOf3
  v3 := Try.zeroValue3
  t4 := Try.underlying4
  a4 := Try.isAgg4
  z4 := Try.sizeOf4
  v4 := Try.zeroValue4
  t22 := Try.underlying22
  a22 := Try.isAgg22
  z22 := Try.sizeOf22
  v22 := Try.zeroValue22
  i3 := by kernel_rfl }
open Go.RowKit Go.Lib in
/-- The same at nil: nil comes back; the world is as it was. (LAID: no walk: one application.) -/
theorem Try.slices_Clone_int_nil (n c : Nat) (w : World) :
    Calls Try.prog 109 #[.slice none n c] w fun e w' => e = .returned (.slice none 0 0) ∧ w' = w := Any.slices_Clone_int_nil Try.laysNm215 n c w
open Go.RowKit Go.Lib in
/-- The same at a slice of length 0 that is not nil, WHATEVER ITS ADDRESS (no cell is asked for): a slice that is not nil and owns nothing comes back. (LAID: no walk: one application.) -/
theorem Try.slices_Clone_int_zero (a : Addr) (c : Nat) (w : World) :
    Calls Try.prog 109 #[.slice (some a) 0 c] w fun e w' => ∃ v', e = .returned v' ∧ w'.ownsRow w.heap.size 3 1 v' 0 [] ∧ v' ≠ .slice none 0 0 ∧ Below w.heap.size w w' := Any.slices_Clone_int_zero Try.laysNm215 a c w
def Try.laysNm223_ren : Go.Shelf.Ren := ⟨fun | 23 => 113 | n => n, fun | 22 => 22 | 3 => 3 | 4 => 4 | 0 => 0 | n => n, fun | n => n⟩
theorem Try.laysNm223 : Go.Proofs.Lays2.n23 Try.prog Try.laysNm223_ren := {
  mixed := by kernel_rfl
  f23 := Try.func113.trans (congrArg some (by kernel_rfl))
  t0 := Try.underlying0
  a0 := Try.isAgg0
  z0 := Try.sizeOf0
  v0 := Try.zeroValue0
  t3 := Try.underlying3
  a3 := Try.isAgg3
  z3 := Try.sizeOf3
  v3 := Try.zeroValue3
  t4 := Try.underlying4
  a4 := Try.isAgg4
  z4 := Try.sizeOf4
  v4 := Try.zeroValue4
  t22 := Try.underlying22
  a22 := Try.isAgg22
  z22 := Try.sizeOf22
  v22 := Try.zeroValue22
  i3 := by kernel_rfl }
open Go.RowKit Go.Lib Go.Sort in
/-- slices.Delete at []int, of an argument, for i ≤ j ≤ n: the slice cut to n - (j - i) elements; the n cells hold what stood ahead of i, what stood from j on, then zeros. (LAID: no walk: one application.) -/
theorem Try.slices_Delete_int_cells (b off n c i j : Nat) (zs : List Int) (w : World) (hz : n ≤ zs.length) (hcap : n ≤ c) (hm : c ≤ 9223372036854775807) (hij : i ≤ j) (hj : j ≤ n) (hc : ∀ j, j < zs.length → w.cell? ⟨b, off + j, none⟩ = some (.int .i64 (zs.getD j 0))) (hf : ∀ j, j < n → w.frozen? ⟨b, off + j, none⟩ = false) :
    Calls Try.prog 113 #[.slice (some ⟨b, off, none⟩) n c, .int .i64 i, .int .i64 j] w fun e w' => e = .returned (.slice (some ⟨b, off, none⟩) (n - (j - i)) c) ∧ ∃ q, w' = (w.drewN q).setCells b off (((zs.take n).take i ++ (zs.take n).drop j ++ List.replicate (j - i) 0).map (Value.int .i64)) := Any.slices_Delete_int_cells Try.laysNm223 b off n c i j zs w hz hcap hm hij hj hc hf
end Go.Proofs
/- Walks: the rank of rows, and which linear maps are valid. -/
set_option linter.unusedSimpArgs false
set_option linter.unusedVariables false
namespace Go.Proofs.Yteehfidjofcfmaa
open Go Go.RowKit
namespace LinT
theorem Tcall_112 : callable Try.prog 112 = true := by kernel_rfl
theorem Tone_3 : oneOf Try.prog 3 = true := by kernel_rfl
theorem Tsl_22 : sliceOf Try.prog 22 = some (3, 1, 8, [.int .i64 0]) := by kernel_rfl
end LinT
open LinT
theorem bitI_nl (r : List Nat) (i b : Nat) : bitI (ix (nl r) i) b = (nx r i).testBit b := by
  rw [ix_nl, bitI, Nat.testBit_eq_decide_div_mod_eq, Int.shiftRight_eq_div_pow]
  congr 1
  rw [show ((nx r i : Int) / ((2 ^ b : Nat) : Int)) % 2 = ((nx r i / 2 ^ b % 2 : Nat) : Int) by norm_cast]
  rw [eq_iff_iff]; omega
theorem bits_xor_nat {a b : Nat} (ha : a < 9223372036854775808) (hb : b < 9223372036854775808) : bits .xor .i64 (a : Int) (b : Int) = ((a ^^^ b : Nat) : Int) := by
  have h1 : a ^^^ b < 9223372036854775808 := Nat.xor_lt_two_pow (n := 63) ha hb
  have h2 : (BitVec.ofInt 64 (a : Int) ^^^ BitVec.ofInt 64 (b : Int)).toNat = a ^^^ b := by
    rw [BitVec.toNat_xor, BitVec.toNat_ofInt, BitVec.toNat_ofInt]
    congr 1 <;> omega
  show IntKind.i64.wrap ((BitVec.ofInt 64 (a : Int) ^^^ BitVec.ofInt 64 (b : Int)).toNat : Int) = _
  rw [h2, IntKind.wrap_i64]; omega
theorem bits_or_nat {a b : Nat} (ha : a < 9223372036854775808) (hb : b < 9223372036854775808) : bits .or .i64 (a : Int) (b : Int) = ((a ||| b : Nat) : Int) := by
  have h1 : a ||| b < 9223372036854775808 := Nat.or_lt_two_pow (n := 63) ha hb
  have h2 : (BitVec.ofInt 64 (a : Int) ||| BitVec.ofInt 64 (b : Int)).toNat = a ||| b := by
    rw [BitVec.toNat_or, BitVec.toNat_ofInt, BitVec.toNat_ofInt]
    congr 1 <;> omega
  show IntKind.i64.wrap ((BitVec.ofInt 64 (a : Int) ||| BitVec.ofInt 64 (b : Int)).toNat : Int) = _
  rw [h2, IntKind.wrap_i64]; omega
section
variable {E : Env} {f : Fr} {H : List Res} {d : Option Tmp} {ty : TypeId} {pos : String} {after : Array Edge} {gd : Option (Nat × Bool)}
theorem OpY.xorNat {t t' : TypeId} {x y : Operand} {a b : Int} {m n : Nat} (hx : f.eval x = .int .i64 a) (hy : f.eval y = .int .i64 b) (ha : a = (m : Nat)) (hb : b = (n : Nat)) (hm : m < 9223372036854775808) (hn : n < 9223372036854775808) :
    OpY E ⟨d, .binOp .xor t x y t', ty, pos, after, gd⟩ f H (.int .i64 ((m ^^^ n : Nat) : Int)) := by
  have := OpY.xor (E := E) (H := H) (d := d) (ty := ty) (pos := pos) (after := after) (gd := gd) (t := t) (t' := t') hx hy
  rw [ha, hb, bits_xor_nat hm hn] at this; exact this
theorem OpY.orNat {t t' : TypeId} {x y : Operand} {a b : Int} {m n : Nat} (hx : f.eval x = .int .i64 a) (hy : f.eval y = .int .i64 b) (ha : a = (m : Nat)) (hb : b = (n : Nat)) (hm : m < 9223372036854775808) (hn : n < 9223372036854775808) :
    OpY E ⟨d, .binOp .or t x y t', ty, pos, after, gd⟩ f H (.int .i64 ((m ||| n : Nat) : Int)) := by
  have := OpY.or (E := E) (H := H) (d := d) (ty := ty) (pos := pos) (after := after) (gd := gd) (t := t) (t' := t') hx hy
  rw [ha, hb, bits_or_nat hm hn] at this; exact this
theorem OpY.shlOne {t t' : TypeId} {x y : Operand} {b : Int} {n q : Nat} {k : IntKind} (hx : f.eval x = .int .i64 1) (hy : f.eval y = .int k b) (hb : b = (n : Nat)) (hn : n ≤ 62) (hq : q = 2 ^ n) :
    OpY E ⟨d, .binOp .shl t x y t', ty, pos, after, gd⟩ f H (.int .i64 (q : Int)) := by
  subst hq
  have h1 : 2 ^ n ≤ 2 ^ 62 := Nat.pow_le_pow_right (by omega) hn
  have h2 : (2 : Nat) ^ 62 = 4611686018427387904 := by decide
  have h3 : ((2 ^ n : Nat) : Int) ≤ 4611686018427387904 := by
    rw [h2] at h1
    exact Int.ofNat_le.2 h1
  have h4 : (0 : Int) ≤ ((2 ^ n : Nat) : Int) := Int.natCast_nonneg _
  exact OpY.shl (n := n) hx hy hb (by omega) (by push_cast; rw [Int.one_mul]) (Int.le_trans (by decide) h4) (Int.le_trans h3 (by decide))
end
/-- The search of the program: the first row with the bit. -/
theorem findI_idx (l : List Nat) (b : Nat) : findI (fun i => bitI (ix (nl l) i) b) l.length = if hasB b l then ((idxB b l : Nat) : Int) else -1 := by
  split
  · rename_i h
    have hlt : idxB b l < l.length := List.findIdx_lt_length_of_exists (by simpa [hasB, List.any_eq_true] using h)
    refine findI_hit (fun i hi => ?_) ?_ hlt
    · rw [bitI_nl]
      have := List.not_of_lt_findIdx hi
      have hil : i < l.length := by omega
      simpa [nx, List.getD, hil] using this
    · rw [bitI_nl]
      have := List.findIdx_getElem (xs := l) (p := fun x => x.testBit b) (w := (show l.findIdx (fun x => x.testBit b) < l.length from hlt))
      have hil : idxB b l < l.length := hlt
      have e : nx l (idxB b l) = l[idxB b l] := by simp [nx, List.getD, hil]
      rw [e]; exact this
  · rename_i h
    refine findI_none fun i hi => ?_
    rw [bitI_nl]
    simp only [hasB, List.any_eq_true, not_exists, not_and, Bool.not_eq_true] at h
    refine h _ ?_
    simp only [nx, List.getD, List.getElem?_eq_getElem hi, Option.getD_some]
    exact List.getElem_mem hi
theorem idxB_lt {b : Nat} {l : List Nat} (h : hasB b l = true) : idxB b l < l.length := List.findIdx_lt_length_of_exists (by simpa [hasB, List.any_eq_true] using h)
/-- The pivot is added to the first j rows that have the bit. -/
def addK (b p : Nat) (D : List Nat) : Nat → List Nat
  | 0 => D
  | j + 1 => if (nx (addK b p D j) j).testBit b = true then (addK b p D j).set j (nx (addK b p D j) j ^^^ p) else addK b p D j
@[simp] theorem addK_length (b p : Nat) (D : List Nat) : ∀ j, (addK b p D j).length = D.length
  | 0 => rfl
  | j + 1 => by simp only [addK]; split <;> simp [addK_length b p D j]
theorem nx_addK {b p : Nat} {D : List Nat} : ∀ {j i : Nat}, j ≤ D.length → i < D.length → nx (addK b p D j) i = if i < j ∧ (nx D i).testBit b = true then nx D i ^^^ p else nx D i
  | 0, i, _, _ => by simp [addK]
  | j + 1, i, hj, hi => by
    have hjj := nx_addK (b := b) (p := p) (D := D) (j := j) (i := j) (by omega) (by omega)
    rw [if_neg (fun h => absurd h.1 (Nat.lt_irrefl _))] at hjj
    have hji := nx_addK (b := b) (p := p) (D := D) (j := j) (i := i) (by omega) hi
    simp only [addK, hjj]
    by_cases hc : (nx D j).testBit b = true
    · rw [if_pos hc, nx_set (by simpa using hi), hji]
      by_cases e : j = i
      · subst e; rw [if_pos rfl, if_pos ⟨by omega, hc⟩]
      · rw [if_neg e]
        by_cases h2 : i < j ∧ (nx D i).testBit b = true
        · rw [if_pos h2, if_pos ⟨by omega, h2.2⟩]
        · rw [if_neg h2, if_neg fun h3 => h2 ⟨by omega, h3.2⟩]
    · rw [if_neg hc, hji]
      by_cases h2 : i < j ∧ (nx D i).testBit b = true
      · rw [if_pos h2, if_pos ⟨by omega, h2.2⟩]
      · rw [if_neg h2]
        by_cases e : j = i
        · subst e; rw [if_neg fun h3 => hc h3.2]
        · rw [if_neg fun h3 => h2 ⟨by omega, h3.2⟩]
theorem addK_all {b p : Nat} {D : List Nat} : addK b p D D.length = D.map fun y => if y.testBit b then y ^^^ p else y := by
  refine list_ext_nx (by simp) fun i hi => ?_
  have hi' : i < D.length := by simpa using hi
  rw [nx_addK (Nat.le_refl _) hi']
  have e : nx (D.map fun y => if y.testBit b then y ^^^ p else y) i = if (nx D i).testBit b then nx D i ^^^ p else nx D i := by simp [nx, List.getD, hi']
  rw [e]
  by_cases h : (nx D i).testBit b = true
  · rw [if_pos ⟨hi', h⟩, if_pos h]
  · rw [if_neg fun h2 => h h2.2, if_neg h]
theorem nl_erase (l : List Nat) (i : Nat) : (nl l).eraseIdx i = nl (l.eraseIdx i) := by
  simp only [nl, List.eraseIdx_eq_take_drop_succ, List.map_append, List.map_take, List.map_drop]
theorem nx_lt {l : List Nat} {k : Nat} (h : ∀ x ∈ l, x < 2 ^ k) (i : Nat) : nx l i < 2 ^ k := by
  by_cases hi : i < l.length
  · simp only [nx, List.getD, List.getElem?_eq_getElem hi, Option.getD_some]; exact h _ (List.getElem_mem hi)
  · rw [nx_ge (by omega)]; exact Nat.two_pow_pos k
theorem lt_nx {l : List Nat} {k : Nat} (h : ∀ i, i < l.length → nx l i < 2 ^ k) : ∀ x ∈ l, x < 2 ^ k := by
  intro x hx
  obtain ⟨i, hi, rfl⟩ := nx_mem hx
  exact h i hi
/-- Which rows are a valid map. -/
def linOk (xs : List Int) (n : Nat) : Bool := within (n : Int) 1 5 && !anyI (fun i => !within (ix xs i) 0 (((2 ^ n : Nat) : Int) - 1)) n && decide ((rkS (nats xs) 10).2 = n)
theorem rows_in {xs : List Int} {n : Nat} (hl : xs.length = n) (h : anyI (fun i => !within (ix xs i) 0 (((2 ^ n : Nat) : Int) - 1)) n = false) : nl (nats xs) = xs ∧ ∀ x ∈ nats xs, x < 2 ^ n := by
  have hr : ∀ x ∈ xs, 0 ≤ x ∧ x ≤ ((2 ^ n : Nat) : Int) - 1 := by
    intro x hx
    obtain ⟨i, hi, e⟩ := List.getElem_of_mem hx
    cases hw : within (ix xs i) 0 (((2 ^ n : Nat) : Int) - 1) with
    | true =>
      have h2 := within_iff.1 hw
      have e2 : ix xs i = x := by simp [ix, List.getD, hi, e]
      rw [e2] at h2; exact h2
    | false => rw [anyI_true (p := fun i => !within (ix xs i) 0 (((2 ^ n : Nat) : Int) - 1)) (show i < n by omega) (by rw [hw]; rfl)] at h; cases h
  refine ⟨nl_nats fun x hx => (hr x hx).1, fun x hx => ?_⟩
  obtain ⟨y, hy, rfl⟩ := List.mem_map.1 hx
  have := hr y hy
  omega
theorem pow5 {n : Nat} (h : n ≤ 5) : 2 ^ n ≤ 32 := Nat.pow_le_pow_right (n := 2) (by omega) h
theorem rank_same {r : List Nat} {n : Nat} (hl : r.length = n) (h5 : n ≤ 5) (hb : ∀ x ∈ r, x < 2 ^ n) : ((rkR n r 10).2 = n ↔ (rkS r 10).2 = n) := by
  have h10 : ∀ x ∈ r, x < 2 ^ 10 := fun x hx => Nat.lt_of_lt_of_le (hb x hx) (Nat.pow_le_pow_right (by omega) (by omega))
  rw [rkR_full (k := 10) hl (fun i _ => nx_lt h10 i), ← rkS_full h10, hl]
theorem setTake {xs : List Int} {i : Nat} : xs.take i ++ xs.drop (i + 1) = xs.eraseIdx i := (List.eraseIdx_eq_take_drop_succ ..).symm

set_option maxHeartbeats 1000000 in
set_option maxRecDepth 20000 in
theorem rankClo_spec {x : Int} {bb p : Nat} {w : World} (hc : Sl w (.slice (some ⟨p, 0, none⟩) 1 1) 1 1 [.int .i64 (bb : Nat)]) (hb : bb ≤ 64) : Calls Try.prog 112 #[.int .i64 x, .pointer (some ⟨p, 0, none⟩)] w (Post No w fun v _ => v = .bool (bitI x bb)) := by
 refine enter (n := 9) (args := [.int .i64 x, .pointer (some ⟨p, 0, none⟩)]) Try.func112 rfl rfl (St.empty _ _) ?_
 refine Run.sr ?_
 refine Run.p (.bool false) rfl rfl ?_
 refine Run.dsr ?_
 refine Run.p (.int .i64 x) rfl rfl ?_
 refine Run.y (.int .i64 (((bb : Nat) : Int))) rfl (OpY.load1 Tone_3 rfl (Cells.env (k := 0) hc rfl (by decide) ⟨rfl, trivial⟩)) ?_
 refine Run.y (.int .i64 (x >>> bb)) rfl (OpY.shr rfl rfl (by first | rfl | omega) (by omega)) ?_
 refine Run.y (.int .i64 ((x >>> bb) % 2)) rfl (OpY.and1 rfl rfl) ?_
 refine Run.p (.bool (((x >>> bb) % 2) == 1)) rfl rfl ?_
 refine Run.p (.bool (((x >>> bb) % 2) == 1)) rfl rfl ?_
 refine Run.done ?_
 refine Run.ret ?_
 refine ⟨.bool (((x >>> bb) % 2) == 1), [], Out.one rfl rfl, (Some'.weak (.nil _)), ?_⟩
 show _ = _; rw [bitI]; congr 1

set_option maxHeartbeats 1000000 in
set_option maxRecDepth 20000 in
theorem IndexFuncRank_spec {bb p : Nat} {va : Value} {n : Nat} {xs : List Int} {w : World} (ha : Sl w va 1 n (ints xs)) (hc : Sl w (.slice (some ⟨p, 0, none⟩) 1 1) 1 1 [.int .i64 (bb : Nat)]) (hb : bb ≤ 64) : Calls Try.prog 111 #[va, .func (.func 112) #[] #[.pointer (some ⟨p, 0, none⟩)]] w (Post No w fun v _ => v = .int .i64 (findI (fun i => bitI (ix xs i) bb) n)) := by
 have hxl := ha.len
 have hn := ha.le
 obtain ⟨A, c, rfl, _, _⟩ := ha.form0
 refine enter (n := 19) (args := [.slice A n c, .func (.func 112) #[] #[.pointer (some ⟨p, 0, none⟩)]]) Try.func111 rfl rfl (St.empty _ _) ?_
 refine Run.sr ?_
 refine Run.p (.int .i64 0) rfl rfl ?_
 refine Run.done ?_
 refine Run.seq ?_
 refine Run.sr ?_
 refine Run.p (.slice A n c) rfl rfl ?_
 refine Run.y (.int .i64 (((n : Nat) : Int))) rfl (OpY.len Tsl_22 rfl) ?_
 refine Run.p (.int .i64 0) rfl rfl ?_
 refine Run.done ?_
 refine Run.block ?_
 refine Run.loop (ι := Nat) [4, 5, 8, 9, 10, 11, 12, 13, 14, 15, 16, 17, 18] (fun k => [(8, .int .i64 (((k : Nat) : Int)))]) (fun k => []) (fun k => k ≤ n ∧ (∀ i, i < k → (bitI (ix xs i) bb) = false)) (fun k => n - k) 0 ?_ ?_ ?_ ?_
 ·exact ⟨Nat.zero_le _, by first | trivial | (intro i hi; omega)⟩
 ·exact ⟨rfl, trivial⟩
 ·exact (Some'.weak (.nil _))
 ·rintro k fr hinv
  show Run _ _ (over _ _ [(8, .int .i64 (((k : Nat) : Int)))] fr) []
  try dsimp only at hinv
  refine Run.sr ?_
  refine Run.p (.bool (decide ((((k : Nat) : Int)) < (((n : Nat) : Int))))) rfl rfl ?_
  refine Run.done ?_
  refine Run.seq ?_
  refine Run.cond (b := decide ((((k : Nat) : Int)) < (((n : Nat) : Int)))) rfl (fun h9 => ?_) (fun h9 => ?_)
  ·have p9 := h9; try simp only [bs] at p9
   have hltk : k < n := by omega
   obtain ⟨b, o, rfl⟩ := ha.opn (by omega)
   refine Run.skip ?_
   refine Run.seq ?_
   refine Run.block ?_
   refine Run.sr ?_
   refine Run.p (.int .i64 (((k : Nat) : Int))) rfl rfl ?_
   refine Run.p (.int .i64 (((k : Nat) : Int))) rfl rfl ?_
   refine Run.dsr ?_
   refine Run.p (.func (.func 112) #[] #[.pointer (some ⟨p, 0, none⟩)]) rfl rfl ?_
   refine Run.p (.slice (some ⟨b, o, none⟩) n c) rfl rfl ?_
   refine Run.p (.int .i64 (((k : Nat) : Int))) rfl rfl ?_
   refine Run.y (.pointer (some ⟨b, o + k, none⟩)) rfl (OpY.index (kk := k) Tsl_22 rfl rfl (by omega) (by omega) (by first | rfl | omega)) ?_
   refine Run.y (.int .i64 (ix xs (k))) rfl (OpY.load1 Tone_3 rfl (Cells.arg (k := k) ha rfl (by omega) (pre1 (by omega)))) ?_
   refine Run.q (v := .bool (bitI (ix xs k) bb)) rfl (OpQ.call (vs := [.int .i64 (ix xs (k)), .pointer (some ⟨p, 0, none⟩)]) (caps := [.pointer (some ⟨p, 0, none⟩)]) Tcall_112 rfl rfl (fun w hs => rankClo_spec (hs.sl hc) hb)) ?_
   refine Run.done ?_
   refine Run.cond (b := bitI (ix xs k) bb) rfl (fun h16 => ?_) (fun h16 => ?_)
   ·have p16 := h16; try simp only [bs] at p16
    refine Run.seq ?_
    have hres : findI (fun i => bitI (ix xs i) bb) n = k := findI_hit hinv.2 h16 hltk
    refine Run.region ?_
    refine Run.p (.int .i64 (((k : Nat) : Int))) rfl rfl ?_
    refine Run.p (.int .i64 (((k : Nat) : Int))) rfl rfl ?_
    refine Run.done ?_
    refine Run.ret ?_
    refine ⟨.int .i64 (((k : Nat) : Int)), [], Out.one rfl rfl, (Some'.weak (.nil _)), ?_⟩
    show _ = _; rw [hres]
   ·have p16 := h16; try simp only [bs] at p16
    refine Run.skip ?_
    refine Run.blockEnd ?_
    have hgood : (bitI (ix xs k) bb) = false := h16
    refine Run.region ?_
    refine Run.y (.int .i64 ((((k : Nat) : Int)) + 1)) rfl (OpY.add rfl rfl rfl (by omega) (by omega)) ?_
    refine Run.p (.int .i64 ((((k : Nat) : Int)) + 1)) rfl rfl ?_
    refine Run.done ?_
    refine Run.goal ⟨(by repeat (first | exact Same.refl _ _ | refine Same.put rfl ?_ | refine Same.over rfl rfl ?_)), k + 1, ?_, ?_, ?_, ?_⟩
    ·refine ⟨by omega, ?_⟩
     intro i hi
     rcases Nat.lt_succ_iff_lt_or_eq.1 hi with h | h
     ·exact hinv.2 i h
     ·rw [h]; exact hgood
    ·omega
    ·exact ⟨(by first | rfl | (congr 1; omega) | simp), trivial⟩
    ·exact (Some'.weak (.nil _))
  ·have p9 := h9; try simp only [bs] at p9
   have hknk : k = n := by omega
   have hres : findI (fun i => bitI (ix xs i) bb) n = -1 := by rw [← hknk]; exact findI_none hinv.2
   refine Run.exit rfl ?_
   refine Run.sr ?_
   refine Run.p (.int .i64 (-1)) rfl rfl ?_
   refine Run.done ?_
   refine Run.ret ?_
   refine ⟨.int .i64 (-1), [], Out.one rfl rfl, (Some'.weak (.nil _)), ?_⟩
   show _ = _; rw [hres]


theorem DeleteInt_spec {va : Value} {n i : Nat} {zs : List Int} {w : World} (ho : (Res.own va 3 1 n (ints zs)).holds w) (hi : i < n) :
    Calls Try.prog 113 #[va, .int .i64 (i : Nat), .int .i64 ((i : Nat) + 1)] w (Post (Of [.own va 3 1 n (ints zs)]) w fun v H => H = [.own v 3 1 (n - 1) (ints (zs.eraseIdx i))]) := by
  have hst := St.start1 ho
  have hzl : zs.length = n := by simpa using ho.1
  rcases ho.2 with ⟨rfl, hn⟩ | ⟨g, cap, cur, rfl, h0, hg, h3, h4, h5, h6⟩
  · omega
  · have hc : ∀ j, j < zs.length → w.cell? ⟨g, 0 + j, none⟩ = some (.int .i64 (zs.getD j 0)) := by
      intro j hj
      have hj2 : j < cur.size := by rw [h5]; omega
      rw [cell_of_row w g (0 + j) cur _ (0, 0) hg]
      have h7 : (cur.toList.take (n * 1))[j]? = (ints zs)[j]? := by rw [h6]
      rw [List.getElem?_take_of_lt (by omega)] at h7
      simp only [Nat.zero_add]
      rw [← Array.getElem?_toList, h7]
      simp [ints, List.getD, hj]
    refine (Try.slices_Delete_int_cells g 0 n cap i (i + 1) zs w (by omega) h3 (by simpa [maxLen] using h4) (by omega) (by omega) hc (fun j _ => by simp [World.frozen?, hg])).mono ?_
    rintro e w' ⟨rfl, q, rfl⟩
    have hlen : ((zs.take n).take i ++ (zs.take n).drop (i + 1) ++ List.replicate (i + 1 - i) 0).length = n := by simp; omega
    have h8 := St.setCellsOwn (((zs.take n).take i ++ (zs.take n).drop (i + 1) ++ List.replicate (i + 1 - i) 0).map (Value.int .i64)) 0 _ _ (hst.drewN q)
    refine ⟨_, _, rfl, (Weak.ownTake (m := n - (i + 1 - i)) (by omega)) _ _ _ h8, ?_⟩
    rw [spl_all (by simp; omega)]
    congr 1
    have e1 : zs.take n = zs := List.take_of_length_le (by omega)
    have e2 : ((zs.take i ++ zs.drop (i + 1) ++ List.replicate (i + 1 - i) 0).map (Value.int .i64)).take ((n - (i + 1 - i)) * 1) = ints (zs.eraseIdx i) := by
      rw [← setTake]
      simp only [ints, List.map_append]
      rw [← List.map_append, List.take_append_of_le_length (by simp; omega), List.take_of_length_le (by simp; omega)]
    rw [e1, e2, show n - (i + 1 - i) = n - 1 by omega]

end Go.Proofs.Yteehfidjofcfmaa
/- Slices of an array that a block holds; copies into a block. -/
set_option linter.unusedSimpArgs false
set_option linter.unusedVariables false
namespace Go.Proofs.Yteehfidjofcfmaa
open Go Go.RowKit
theorem OpY.sliceArr {E : Env} {f : Fr} {H : List Res} {d : Option Tmp} {ty : TypeId} {pos : String} {after : Array Edge} {gd : Option (Nat × Bool)} {t : TypeId} {x : Operand} {b o n size : Nat} (ht : arrayOf E.P t = some (n, size)) (hx : f.eval x = .pointer (some ⟨b, o, none⟩)) (h0 : 0 < n) :
    OpY E ⟨d, .slice t x none none none, ty, pos, after, gd⟩ f H (.slice (some ⟨b, o, none⟩) n n) := by
  intro w _
  unfold arrayOf at ht
  split at ht
  · rename_i n' e hu
    obtain ⟨i, hi, he⟩ := Option.map_eq_some_iff.1 ht
    simp only [Prod.mk.injEq] at he
    obtain ⟨rfl, rfl⟩ := he
    have hne : ¬ n' = 0 := by omega
    simp [execOp, hx, Instr.sliceAt, run_underlying hu, Instr.sliceBounds, sizeOf, typeInfo, hi, Instr.sureAddr, hne, Addr.add]
  · cases ht
theorem OpStep.copyBlk {E : Env} {f : Fr} {H : List Res} {d : Option Tmp} {pos : String} {after : Array Edge} {gd : Option (Nat × Bool)} {K : Fr → List Res → Prop} {dT sT ty' : TypeId} {x y : Operand} {g o dn dc sn cnt : Nat} {bt e : TypeId} {size bytes : Nat} {zs cs ys us : List Value} {u : Value} {H' : List Res}
    (ht : sliceOf E.P dT = some (e, size, bytes, zs)) (hx : f.eval x = .slice (some ⟨g, o, none⟩) dn dc) (hy : f.eval y = u) (hr : ∀ w, St E.M E.w0 w H → Sl w u size sn ys) (hsn : 0 < sn) (hc : Nat.min sn dn = cnt) (hus : ys.take (cnt * size) = us) (hone : us.all (·.oneCell') = true)
    (hH : Turn (.blk g bt cs) (.blk g bt (spl cs o us)) H H') (hfit : o + cnt * size ≤ cs.length) (hk : K (putF E.n f d (.int .i64 cnt)) H') :
    OpStep E ⟨d, .call { callee := .builtin .copy, args := #[x, y], argTypes := #[dT, sT] }, ty', pos, after, gd⟩ f H K := by
  refine OpStep.of_value (v := fun _ => .int .i64 cnt) (w' := fun w => w.setCells g o us) (H' := fun _ => H') (fun w hs => ?_)
  obtain ⟨hu, i, z, hi, hz, hsz, _, _⟩ := sliceOf_spec ht
  obtain ⟨hyl, A, c, rfl, h1, h2, h3⟩ := hr w hs
  obtain ⟨b2, o2, rfl, _, hrg⟩ := h3 hsn
  obtain ⟨H1, H2, rfl, rfl⟩ := hH.split
  have hs' := hs.perm List.perm_middle
  have hul : us.length = cnt * size := by
    rw [← hus, List.length_take, hyl]
    have : cnt * size ≤ sn * size := Nat.mul_le_mul_right _ (by rw [← hc]; exact Nat.min_le_left _ _)
    omega
  have hl := run_loadCells_list (P := E.P) w ⟨b2, o2, none⟩ us (fun j v hv => by
    rw [Addr.add_mid]
    refine hrg j v ?_
    rw [← hus, List.getElem?_take] at hv
    split at hv
    · exact hv
    · cases hv)
  rw [hul] at hl
  have hst := run_storeCells_cells (P := E.P) g o us 0 w (fun j hj => by
      have h2 := hs'.cell_blk (b := g) (List.Mem.head _) (o + j)
      rw [List.getElem?_eq_getElem (show o + j < cs.length by omega)] at h2
      rw [Nat.add_zero, h2]; rfl) (fun j hj => by rw [Nat.add_zero]; exact hs'.frozen_blk (List.Mem.head _) (o + j)) (fun v hv => (List.all_eq_true.1 hone) v hv)
  simp only [Nat.add_zero] at hst
  refine ⟨?_, (St.setCells us o w cs hs').perm List.perm_middle.symm, hk⟩
  have hcp : (Builtin.copy_ #[dT, sT] ty' #[.slice (some ⟨g, o, none⟩) dn dc, .slice (some ⟨b2, o2, none⟩) sn c]).run E.P w = .ok (goInt cnt) (w.setCells g o us) := by
    simp [Builtin.copy_, run_underlying hu, Builtin.lenOf, Builtin.firstCells, sizeOf, typeInfo, hi, hsz, hc, hl, hst]
  simp [execOp, resolve, invoke, builtin, hx, hy, hcp, goInt]

end Go.Proofs.Yteehfidjofcfmaa
/- Walks: which linear maps are valid, by program and reference. -/
set_option linter.unusedSimpArgs false
set_option linter.unusedVariables false
namespace Go.Proofs.Yteehfidjofcfmaa
open Go Go.RowKit
namespace Lin2T
theorem Tcall_109 : callable Try.prog 109 = true := by kernel_rfl
theorem Tcall_111 : callable Try.prog 111 = true := by kernel_rfl
theorem Tcall_113 : callable Try.prog 113 = true := by kernel_rfl
theorem Tcall_73 : callable Try.prog 73 = true := by kernel_rfl
theorem Tcall_74 : callable Try.prog 74 = true := by kernel_rfl
theorem Tcall_75 : callable Try.prog 75 = true := by kernel_rfl
theorem Tcall_76 : callable Try.prog 76 = true := by kernel_rfl
theorem Tfo_28_0 : fieldOff Try.prog 28 0 = some 0 := by kernel_rfl
theorem Tone_22 : oneOf Try.prog 22 = true := by kernel_rfl
theorem Tone_3 : oneOf Try.prog 3 = true := by kernel_rfl
theorem Tsize_3 : (Try.prog.info? 3).map (·.size) = some 1 := by kernel_rfl
theorem Tsl_22 : sliceOf Try.prog 22 = some (3, 1, 8, [.int .i64 0]) := by kernel_rfl
theorem Tzero_3 : zeroOf Try.prog 3 = some [.int .i64 0] := by kernel_rfl
end Lin2T
open Lin2T
theorem rkS_b {l : List Nat} {b : Nat} (h : hasB b (rkS l b).1 = true) : rkS l (b + 1) = (pstep b (rkS l b).1, (rkS l b).2 + 1) := by rw [rkS, if_pos h]
theorem rkS_n {l : List Nat} {b : Nat} (h : hasB b (rkS l b).1 = false) : rkS l (b + 1) = rkS l b := by rw [rkS, if_neg (by rw [h]; decide)]
theorem pstep_add (b : Nat) (l : List Nat) : addK b (nx l (idxB b l)) (l.eraseIdx (idxB b l)) (l.eraseIdx (idxB b l)).length = pstep b l := by rw [addK_all]; rfl

set_option maxHeartbeats 1000000 in
set_option maxRecDepth 20000 in
theorem rankOf_spec {va : Value} {r : List Nat} {w : World} (h0 : 0 < r.length) (h5 : r.length ≤ 5) (hb : ∀ x ∈ r, x < 2 ^ 10) (ha : Sl w va 1 r.length (ints (nl r))) : Calls Try.prog 76 #[va] w (Post No w fun v _ => v = .int .i64 ((rkS r 10).2 : Nat)) := by
 refine enter (n := 52) (args := [va]) Try.func76 rfl rfl (St.empty _ _) ?_
 refine Run.sr ?_
 refine Run.p (.int .i64 0) rfl rfl ?_
 refine Run.dsr ?_
 refine Run.p (va) rfl rfl ?_
 refine Run.step rfl (OpStep.call (vs := [va]) (caps := []) Tcall_109 rfl rfl (fun w hs => CloneInt_spec (n := r.length) (by omega) h0 (hs.sl ha)) ?_)
 rintro uc _ rfl
 show Run _ _ (putF _ _ _ uc) [.own uc 3 1 (r.length) (ints (nl r))]
 refine Run.p (uc) rfl rfl ?_
 refine Run.p (.int .i64 0) rfl rfl ?_
 refine Run.done ?_
 refine Run.seq ?_
 refine Run.sr ?_
 refine Run.p (.int .i64 0) rfl rfl ?_
 refine Run.done ?_
 refine Run.block ?_
 refine Run.loop (ι := Nat × Value) [3, 4, 5, 6, 7, 8, 9, 12, 13, 14, 15, 16, 17, 18, 19, 20, 21, 22, 23, 24, 25, 26, 27, 28, 29, 30, 31, 32, 33, 34, 35, 36, 37, 38, 39, 40, 41, 42, 43, 44, 45, 46, 47, 48, 49, 50] (fun ⟨bb, v⟩ => [(3, v), (4, .int .i64 ((((rkS r bb).2 : Nat) : Int))), (12, .int .i64 (((bb : Nat) : Int)))]) (fun ⟨bb, v⟩ => [.own v 3 1 (((rkS r bb).1).length) (ints (nl ((rkS r bb).1)))]) (fun ⟨bb, v⟩ => bb ≤ 10) (fun ⟨bb, v⟩ => 10 - bb) (0, uc) ?_ ?_ ?_ ?_
 ·exact Nat.zero_le _
 ·exact ⟨rfl, rfl, rfl, trivial⟩
 ·exact (Some'.weak (.takeEq (by first | rfl | (rw [hnx]; done) | (rw [hnx]; show Res.own _ _ _ _ _ = Res.own _ _ _ (pstep bb _).length (ints (nl (pstep bb _))); rw [← hfin]; simp)) (.nil _)))
 ·rintro ⟨bb, v⟩ fr hinv
  show Run _ _ (over _ _ [(3, v), (4, .int .i64 ((((rkS r bb).2 : Nat) : Int))), (12, .int .i64 (((bb : Nat) : Int)))] fr) [.own v 3 1 (((rkS r bb).1).length) (ints (nl ((rkS r bb).1)))]
  try dsimp only at hinv
  refine Run.sr ?_
  refine Run.p (.bool (decide ((((bb : Nat) : Int)) < 10))) rfl rfl ?_
  refine Run.done ?_
  refine Run.seq ?_
  refine Run.cond (b := decide ((((bb : Nat) : Int)) < 10)) rfl (fun h13 => ?_) (fun h13 => ?_)
  ·have p13 := h13; try simp only [bs] at p13
   have hnl1 := nl_length (rkS r bb).1
   have hlb := rkS_len r bb
   have hbd := rkS_bound r (k := 10) hb bb
   have hidx := findI_idx ((rkS r bb).1) bb
   refine Run.skip ?_
   refine Run.seq ?_
   refine Run.block ?_
   refine Run.sr ?_
   refine Run.p (.int .i64 (((bb : Nat) : Int))) rfl rfl ?_
   refine Run.step rfl (OpStep.alloc (zs := [.int .i64 0]) Tzero_3 fun b1 => ?_)
   refine Run.step rfl (OpStep.storeAll (us := [.int .i64 (((bb : Nat) : Int))]) Tsize_3 rfl rfl rfl (.here _) rfl ?_)
   refine Run.dsr ?_
   refine Run.p (v) rfl rfl ?_
   refine Run.y (.func (.func 112) #[] #[.pointer (some ⟨b1, 0, none⟩)]) rfl (OpY.makeFunc (caps := [.pointer (some ⟨b1, 0, none⟩)]) rfl) ?_
   refine Run.q (v := .int .i64 (findI (fun i => bitI (ix (nl ((rkS r bb).1)) i) bb) ((rkS r bb).1).length)) rfl (OpQ.call (vs := [v, .func (.func 112) #[] #[.pointer (some ⟨b1, 0, none⟩)]]) (caps := []) Tcall_111 rfl rfl (fun w hs => IndexFuncRank_spec (bb := bb) (hs.slOwn (.tail _ (List.Mem.head _))) (hs.slBlk (.head _)) (by omega))) ?_
   refine Run.p (.int .i64 (findI (fun i => bitI (ix (nl ((rkS r bb).1)) i) bb) ((rkS r bb).1).length)) rfl rfl ?_
   refine Run.done ?_
   refine Run.seq ?_
   refine Run.sr ?_
   refine Run.p (.int .i64 (findI (fun i => bitI (ix (nl ((rkS r bb).1)) i) bb) ((rkS r bb).1).length)) rfl rfl ?_
   refine Run.p (.bool (decide ((findI (fun i => bitI (ix (nl ((rkS r bb).1)) i) bb) ((rkS r bb).1).length) < 0))) rfl rfl ?_
   refine Run.done ?_
   refine Run.cond (b := decide ((findI (fun i => bitI (ix (nl ((rkS r bb).1)) i) bb) ((rkS r bb).1).length) < 0)) rfl (fun h19 => ?_) (fun h19 => ?_)
   ·have p19 := h19; try simp only [bs] at p19
    have hn : hasB bb (rkS r bb).1 = false := by
     cases hh : hasB bb (rkS r bb).1 with
     | false => rfl
     | true => rw [hh, if_pos rfl] at hidx; omega
    have hnx := rkS_n hn
    refine Run.exit rfl ?_
    refine Run.region ?_
    refine Run.y (.int .i64 ((((bb : Nat) : Int)) + 1)) rfl (OpY.add rfl rfl rfl (by omega) (by omega)) ?_
    refine Run.p (.int .i64 ((((bb : Nat) : Int)) + 1)) rfl rfl ?_
    refine Run.done ?_
    refine Run.goal ⟨(by repeat (first | exact Same.refl _ _ | refine Same.put rfl ?_ | refine Same.over rfl rfl ?_)), (bb + 1, v), ?_, ?_, ?_, ?_⟩
    ·show bb + 1 ≤ 10; omega
    ·show 10 - (bb + 1) < 10 - bb; omega
    ·exact ⟨(by first | rfl | (congr 1; omega) | simp), (by show Value.int _ _ = Value.int _ _; congr 1; rw [hnx]; try (push_cast; rfl)), (by first | rfl | (congr 1; omega) | simp), trivial⟩
    ·exact (Some'.weak (.skip (.takeEq (by first | rfl | (rw [hnx]; done) | (rw [hnx]; show Res.own _ _ _ _ _ = Res.own _ _ _ (pstep bb _).length (ints (nl (pstep bb _))); rw [← hfin]; simp)) (.nil _))))
   ·have p19 := h19; try simp only [bs] at p19
    have hh : hasB bb (rkS r bb).1 = true := by
     cases hh : hasB bb (rkS r bb).1 with
     | true => rfl
     | false => rw [hh, if_neg (by decide)] at hidx; omega
    rw [hh, if_pos rfl] at hidx
    have hil := idxB_lt hh
    have hnx := rkS_b hh
    have hdl : (((rkS r bb).1.eraseIdx (idxB bb (rkS r bb).1))).length = (rkS r bb).1.length - 1 := by rw [List.length_eraseIdx, if_pos hil]
    rw [hidx]
    refine Run.skip ?_
    refine Run.seq ?_
    refine Run.openOwn (.tail _ (List.Mem.head _)) (by omega) (fun g cg hvg hcapg _ => ?_) (fun _ _ _ => ⟨nofun, nofun, nofun⟩)
    subst hvg
    refine Run.region ?_
    refine Run.p (.slice (some ⟨g, 0, none⟩) (((rkS r bb).1).length) cg) rfl rfl ?_
    refine Run.p (.int .i64 (((idxB bb (rkS r bb).1 : Nat) : Int))) rfl rfl ?_
    refine Run.y (.pointer (some ⟨g, idxB bb (rkS r bb).1, none⟩)) rfl (OpY.index (kk := idxB bb (rkS r bb).1) Tsl_22 rfl rfl (by omega) (by omega) (by first | rfl | omega)) ?_
    refine Run.y (.int .i64 (ix (nl ((rkS r bb).1)) (idxB bb (rkS r bb).1))) rfl (OpY.load1 Tone_3 rfl (Cells.own0 (.tail _ (List.Mem.head _)) (pre1 (by omega)))) ?_
    refine Run.p (.int .i64 (ix (nl ((rkS r bb).1)) (idxB bb (rkS r bb).1))) rfl rfl ?_
    refine Run.dsr ?_
    refine Run.p (.slice (some ⟨g, 0, none⟩) (((rkS r bb).1).length) cg) rfl rfl ?_
    refine Run.p (.int .i64 (((idxB bb (rkS r bb).1 : Nat) : Int))) rfl rfl ?_
    refine Run.p (.int .i64 (((idxB bb (rkS r bb).1 : Nat) : Int))) rfl rfl ?_
    refine Run.y (.int .i64 ((((idxB bb (rkS r bb).1 : Nat) : Int)) + 1)) rfl (OpY.add rfl rfl rfl (by omega) (by omega)) ?_
    refine Run.step rfl (OpStep.callM (H1 := [.own (.slice (some ⟨g, 0, none⟩) (((rkS r bb).1).length) cg) 3 1 (((rkS r bb).1).length) (ints (nl ((rkS r bb).1)))]) (H2 := [.blk b1 3 [.int .i64 (((bb : Nat) : Int))]]) (vs := [.slice (some ⟨g, 0, none⟩) (((rkS r bb).1).length) cg, .int .i64 (((idxB bb (rkS r bb).1 : Nat) : Int)), .int .i64 ((((idxB bb (rkS r bb).1 : Nat) : Int)) + 1)]) (caps := []) Tcall_113 rfl rfl (Weak.selF [1]) (fun w hs => (by have h := DeleteInt_spec (hs.holds _ (.head _)) hil; rw [nl_erase, ← hdl] at h; exact h)) ?_)
    rintro vd _ rfl
    show Run _ _ (putF _ _ _ vd) [.own vd 3 1 ((((rkS r bb).1.eraseIdx (idxB bb (rkS r bb).1))).length) (ints (nl (((rkS r bb).1.eraseIdx (idxB bb (rkS r bb).1))))), .blk b1 3 [.int .i64 (((bb : Nat) : Int))]]
    refine Run.p (vd) rfl rfl ?_
    refine Run.done ?_
    refine Run.seq ?_
    refine Run.sr ?_
    refine Run.p (vd) rfl rfl ?_
    refine Run.formOwn (.head _) (fun A_vd1 c_vd1 hv hcapc_vd1 hmaxc_vd1 => ?_) (fun _ _ _ => ⟨nofun, nofun, nofun⟩)
    subst hv
    refine Run.y (.int .i64 ((((((rkS r bb).1.eraseIdx (idxB bb (rkS r bb).1))).length : Nat) : Int))) rfl (OpY.len Tsl_22 rfl) ?_
    refine Run.p (.int .i64 0) rfl rfl ?_
    refine Run.done ?_
    refine Run.block ?_
    refine Run.loop (ι := Nat) [8, 9, 31, 32, 33, 34, 35, 36, 37, 38, 39, 40, 41, 42, 43, 44, 45, 46, 47] (fun j => [(31, .int .i64 (((j : Nat) : Int)))]) (fun j => [.own (.slice A_vd1 ((((rkS r bb).1.eraseIdx (idxB bb (rkS r bb).1))).length) c_vd1) 3 1 ((((rkS r bb).1.eraseIdx (idxB bb (rkS r bb).1))).length) (ints (nl (addK bb (nx (rkS r bb).1 (idxB bb (rkS r bb).1)) ((rkS r bb).1.eraseIdx (idxB bb (rkS r bb).1)) j))), .blk b1 3 [.int .i64 (((bb : Nat) : Int))]]) (fun j => j ≤ (((rkS r bb).1.eraseIdx (idxB bb (rkS r bb).1))).length) (fun j => (((rkS r bb).1.eraseIdx (idxB bb (rkS r bb).1))).length - j) 0 ?_ ?_ ?_ ?_
    ·exact Nat.zero_le _
    ·exact ⟨rfl, trivial⟩
    ·exact (Some'.weak (.takeEq (by first | rfl | (rw [hX]; done) | (rw [hX, nl_set]; done) | (rw [nl_erase, ← hdl]; rfl) | (rw [nl_set])) (.take (.nil _))))
    ·rintro j fr hinv
     show Run _ _ (over _ _ [(31, .int .i64 (((j : Nat) : Int)))] fr) [.own (.slice A_vd1 ((((rkS r bb).1.eraseIdx (idxB bb (rkS r bb).1))).length) c_vd1) 3 1 ((((rkS r bb).1.eraseIdx (idxB bb (rkS r bb).1))).length) (ints (nl (addK bb (nx (rkS r bb).1 (idxB bb (rkS r bb).1)) ((rkS r bb).1.eraseIdx (idxB bb (rkS r bb).1)) j))), .blk b1 3 [.int .i64 (((bb : Nat) : Int))]]
     try dsimp only at hinv
     refine Run.sr ?_
     refine Run.p (.bool (decide ((((j : Nat) : Int)) < ((((((rkS r bb).1.eraseIdx (idxB bb (rkS r bb).1))).length : Nat) : Int))))) rfl rfl ?_
     refine Run.done ?_
     refine Run.seq ?_
     refine Run.cond (b := decide ((((j : Nat) : Int)) < ((((((rkS r bb).1.eraseIdx (idxB bb (rkS r bb).1))).length : Nat) : Int)))) rfl (fun h32 => ?_) (fun h32 => ?_)
     ·have p32 := h32; try simp only [bs] at p32
      have hlt : j < (((rkS r bb).1.eraseIdx (idxB bb (rkS r bb).1))).length := by omega
      have hal := addK_length bb (nx (rkS r bb).1 (idxB bb (rkS r bb).1)) ((rkS r bb).1.eraseIdx (idxB bb (rkS r bb).1)) j
      have hnl2 := nl_length (addK bb (nx (rkS r bb).1 (idxB bb (rkS r bb).1)) ((rkS r bb).1.eraseIdx (idxB bb (rkS r bb).1)) j)
      refine Run.openOwn (.head _) (by omega) (fun g2 cg2 hvg2 hcapg2 _ => ?_) (fun _ _ _ => ⟨nofun, nofun, nofun⟩)
      injection hvg2 with hAg2 _ hcg2; subst hAg2; subst hcg2
      refine Run.skip ?_
      refine Run.seq ?_
      refine Run.block ?_
      refine Run.sr ?_
      refine Run.p (.int .i64 (((j : Nat) : Int))) rfl rfl ?_
      refine Run.y (.pointer (some ⟨g2, j, none⟩)) rfl (OpY.index (kk := j) Tsl_22 rfl rfl (by omega) (by omega) (by first | rfl | omega)) ?_
      refine Run.y (.int .i64 (ix (nl (addK bb (nx (rkS r bb).1 (idxB bb (rkS r bb).1)) ((rkS r bb).1.eraseIdx (idxB bb (rkS r bb).1)) j)) (j))) rfl (OpY.load1 Tone_3 rfl (Cells.own0 (.head _) (pre1 (by omega)))) ?_
      refine Run.p (.int .i64 (((j : Nat) : Int))) rfl rfl ?_
      refine Run.p (.int .i64 (ix (nl (addK bb (nx (rkS r bb).1 (idxB bb (rkS r bb).1)) ((rkS r bb).1.eraseIdx (idxB bb (rkS r bb).1)) j)) (j))) rfl rfl ?_
      refine Run.dsr ?_
      refine Run.p (.int .i64 (ix (nl (addK bb (nx (rkS r bb).1 (idxB bb (rkS r bb).1)) ((rkS r bb).1.eraseIdx (idxB bb (rkS r bb).1)) j)) (j))) rfl rfl ?_
      refine Run.y (.int .i64 (((bb : Nat) : Int))) rfl (OpY.load1 Tone_3 rfl (Cells.blk (.tail _ (List.Mem.head _)) ⟨rfl, trivial⟩)) ?_
      refine Run.y (.int .i64 ((ix (nl (addK bb (nx (rkS r bb).1 (idxB bb (rkS r bb).1)) ((rkS r bb).1.eraseIdx (idxB bb (rkS r bb).1)) j)) (j)) >>> bb)) rfl (OpY.shr rfl rfl (by first | rfl | omega) (by omega)) ?_
      refine Run.y (.int .i64 (((ix (nl (addK bb (nx (rkS r bb).1 (idxB bb (rkS r bb).1)) ((rkS r bb).1.eraseIdx (idxB bb (rkS r bb).1)) j)) (j)) >>> bb) % 2)) rfl (OpY.and1 rfl rfl) ?_
      refine Run.p (.bool ((((ix (nl (addK bb (nx (rkS r bb).1 (idxB bb (rkS r bb).1)) ((rkS r bb).1.eraseIdx (idxB bb (rkS r bb).1)) j)) (j)) >>> bb) % 2) == 1)) rfl rfl ?_
      refine Run.done ?_
      refine Run.cond (b := (((ix (nl (addK bb (nx (rkS r bb).1 (idxB bb (rkS r bb).1)) ((rkS r bb).1.eraseIdx (idxB bb (rkS r bb).1)) j)) (j)) >>> bb) % 2) == 1) rfl (fun h40 => ?_) (fun h40 => ?_)
      ·have p40 := h40; try simp only [bs] at p40
       have hbit : (nx (addK bb (nx (rkS r bb).1 (idxB bb (rkS r bb).1)) ((rkS r bb).1.eraseIdx (idxB bb (rkS r bb).1)) j) j).testBit bb = true := by rw [← bitI_nl]; exact bitI_true p40
       have hX : addK bb (nx (rkS r bb).1 (idxB bb (rkS r bb).1)) ((rkS r bb).1.eraseIdx (idxB bb (rkS r bb).1)) (j + 1) = (addK bb (nx (rkS r bb).1 (idxB bb (rkS r bb).1)) ((rkS r bb).1.eraseIdx (idxB bb (rkS r bb).1)) j).set j (nx (addK bb (nx (rkS r bb).1 (idxB bb (rkS r bb).1)) ((rkS r bb).1.eraseIdx (idxB bb (rkS r bb).1)) j) j ^^^ nx (rkS r bb).1 (idxB bb (rkS r bb).1)) := by rw [addK, if_pos hbit]
       have hv : nx (addK bb (nx (rkS r bb).1 (idxB bb (rkS r bb).1)) ((rkS r bb).1.eraseIdx (idxB bb (rkS r bb).1)) j) j < 2 ^ 10 := by
        rw [nx_addK (by omega) hlt, if_neg (fun h => absurd h.1 (Nat.lt_irrefl _))]
        exact nx_lt (fun x hx => hbd x (List.mem_of_mem_eraseIdx hx)) _
       have hpv : nx (rkS r bb).1 (idxB bb (rkS r bb).1) < 2 ^ 10 := nx_lt hbd _
       refine Run.region ?_
       refine Run.p (.slice (some ⟨g2, 0, none⟩) ((((rkS r bb).1.eraseIdx (idxB bb (rkS r bb).1))).length) c_vd1) rfl rfl ?_
       refine Run.p (.int .i64 (((j : Nat) : Int))) rfl rfl ?_
       refine Run.p (.int .i64 (ix (nl (addK bb (nx (rkS r bb).1 (idxB bb (rkS r bb).1)) ((rkS r bb).1.eraseIdx (idxB bb (rkS r bb).1)) j)) (j))) rfl rfl ?_
       refine Run.p (.int .i64 (ix (nl ((rkS r bb).1)) (idxB bb (rkS r bb).1))) rfl rfl ?_
       refine Run.y (.int .i64 (((nx (addK bb (nx (rkS r bb).1 (idxB bb (rkS r bb).1)) ((rkS r bb).1.eraseIdx (idxB bb (rkS r bb).1)) j) j ^^^ nx (rkS r bb).1 (idxB bb (rkS r bb).1) : Nat) : Int))) rfl (OpY.xorNat rfl rfl (ix_nl _ _) (ix_nl _ _) (by omega) (by omega)) ?_
       refine Run.y (.pointer (some ⟨g2, j, none⟩)) rfl (OpY.index (kk := j) Tsl_22 rfl rfl (by omega) (by omega) (by first | rfl | omega)) ?_
       refine Run.step rfl (OpStep.storeOwnInt (o := j) (a := ((nx (addK bb (nx (rkS r bb).1 (idxB bb (rkS r bb).1)) ((rkS r bb).1.eraseIdx (idxB bb (rkS r bb).1)) j) j ^^^ nx (rkS r bb).1 (idxB bb (rkS r bb).1) : Nat) : Int)) Tsize_3 rfl rfl (.here _) (by omega) ?_)
       refine Run.done ?_
       refine Run.blockEnd ?_
       refine Run.region ?_
       refine Run.y (.int .i64 ((((j : Nat) : Int)) + 1)) rfl (OpY.add rfl rfl rfl (by omega) (by omega)) ?_
       refine Run.p (.int .i64 ((((j : Nat) : Int)) + 1)) rfl rfl ?_
       refine Run.done ?_
       refine Run.goal ⟨(by repeat (first | exact Same.refl _ _ | refine Same.put rfl ?_ | refine Same.over rfl rfl ?_)), j + 1, ?_, ?_, ?_, ?_⟩
       ·omega
       ·omega
       ·exact ⟨(by first | rfl | (congr 1; omega) | simp), trivial⟩
       ·exact (Some'.weak (.takeEq (by first | rfl | (rw [hX]; done) | (rw [hX, nl_set]; done) | (rw [nl_erase, ← hdl]; rfl) | (rw [nl_set])) (.take (.nil _))))
      ·have p40 := h40; try simp only [bs] at p40
       have hbit : (nx (addK bb (nx (rkS r bb).1 (idxB bb (rkS r bb).1)) ((rkS r bb).1.eraseIdx (idxB bb (rkS r bb).1)) j) j).testBit bb = false := by rw [← bitI_nl]; exact bitI_ne1 p40
       have hX : addK bb (nx (rkS r bb).1 (idxB bb (rkS r bb).1)) ((rkS r bb).1.eraseIdx (idxB bb (rkS r bb).1)) (j + 1) = addK bb (nx (rkS r bb).1 (idxB bb (rkS r bb).1)) ((rkS r bb).1.eraseIdx (idxB bb (rkS r bb).1)) j := by rw [addK, if_neg (by rw [hbit]; decide)]
       refine Run.skip ?_
       refine Run.blockEnd ?_
       refine Run.region ?_
       refine Run.y (.int .i64 ((((j : Nat) : Int)) + 1)) rfl (OpY.add rfl rfl rfl (by omega) (by omega)) ?_
       refine Run.p (.int .i64 ((((j : Nat) : Int)) + 1)) rfl rfl ?_
       refine Run.done ?_
       refine Run.goal ⟨(by repeat (first | exact Same.refl _ _ | refine Same.put rfl ?_ | refine Same.over rfl rfl ?_)), j + 1, ?_, ?_, ?_, ?_⟩
       ·omega
       ·omega
       ·exact ⟨(by first | rfl | (congr 1; omega) | simp), trivial⟩
       ·exact (Some'.weak (.takeEq (by first | rfl | (rw [hX]; done) | (rw [hX, nl_set]; done) | (rw [nl_erase, ← hdl]; rfl) | (rw [nl_set])) (.take (.nil _))))
     ·have p32 := h32; try simp only [bs] at p32
      have hj : j = (((rkS r bb).1.eraseIdx (idxB bb (rkS r bb).1))).length := by omega
      have hfin : addK bb (nx (rkS r bb).1 (idxB bb (rkS r bb).1)) ((rkS r bb).1.eraseIdx (idxB bb (rkS r bb).1)) j = pstep bb (rkS r bb).1 := by rw [hj]; exact pstep_add bb (rkS r bb).1
      refine Run.exit rfl ?_
      refine Run.region ?_
      refine Run.p (.int .i64 ((((rkS r bb).2 : Nat) : Int))) rfl rfl ?_
      refine Run.y (.int .i64 (((((rkS r bb).2 : Nat) : Int)) + 1)) rfl (OpY.add rfl rfl rfl (by omega) (by omega)) ?_
      refine Run.p (.int .i64 (((((rkS r bb).2 : Nat) : Int)) + 1)) rfl rfl ?_
      refine Run.done ?_
      refine Run.blockEnd ?_
      refine Run.region ?_
      refine Run.y (.int .i64 ((((bb : Nat) : Int)) + 1)) rfl (OpY.add rfl rfl rfl (by omega) (by omega)) ?_
      refine Run.p (.int .i64 ((((bb : Nat) : Int)) + 1)) rfl rfl ?_
      refine Run.done ?_
      refine Run.goal ⟨(by repeat (first | exact Same.refl _ _ | refine Same.put rfl ?_ | refine Same.over rfl rfl ?_)), (bb + 1, .slice A_vd1 ((((rkS r bb).1.eraseIdx (idxB bb (rkS r bb).1))).length) c_vd1), ?_, ?_, ?_, ?_⟩
      ·show bb + 1 ≤ 10; omega
      ·show 10 - (bb + 1) < 10 - bb; omega
      ·exact ⟨(by first | rfl | (congr 1; omega) | simp), (by show Value.int _ _ = Value.int _ _; congr 1; rw [hnx]; try (push_cast; rfl)), (by first | rfl | (congr 1; omega) | simp), trivial⟩
      ·exact (Some'.weak (.takeEq (by first | rfl | (rw [hnx]; done) | (rw [hnx]; show Res.own _ _ _ _ _ = Res.own _ _ _ (pstep bb _).length (ints (nl (pstep bb _))); rw [← hfin]; simp)) (.nil _)))
  ·have p13 := h13; try simp only [bs] at p13
   have hb10 : bb = 10 := by omega
   refine Run.exit rfl ?_
   refine Run.sr ?_
   refine Run.p (.int .i64 ((((rkS r bb).2 : Nat) : Int))) rfl rfl ?_
   refine Run.p (.int .i64 ((((rkS r bb).2 : Nat) : Int))) rfl rfl ?_
   refine Run.done ?_
   refine Run.ret ?_
   refine ⟨.int .i64 ((((rkS r bb).2 : Nat) : Int)), [], Out.one rfl rfl, (Some'.weak (.nil _)), ?_⟩
   show _ = _; rw [hb10]

set_option maxHeartbeats 1000000 in
set_option maxRecDepth 20000 in
theorem linClo_spec {x : Int} {nn p : Nat} {w : World} (hc : Sl w (.slice (some ⟨p, 0, none⟩) 1 1) 1 1 [.int .i64 nn]) (hn5 : nn ≤ 5) : Calls Try.prog 75 #[.int .i64 x, .pointer (some ⟨p, 0, none⟩)] w (Post No w fun v _ => v = .bool (!within x 0 (((2 ^ nn : Nat) : Int) - 1))) := by
 have hp5 := pow5 hn5
 obtain ⟨q, hq⟩ : ∃ q : Nat, q = 2 ^ nn := ⟨_, rfl⟩
 rw [← hq] at hp5 ⊢
 refine enter (n := 10) (args := [.int .i64 x, .pointer (some ⟨p, 0, none⟩)]) Try.func75 rfl rfl (St.empty _ _) ?_
 refine Run.sr ?_
 refine Run.p (.bool false) rfl rfl ?_
 refine Run.dsr ?_
 refine Run.p (.int .i64 x) rfl rfl ?_
 refine Run.y (.int .i64 (((nn : Nat) : Int))) rfl (OpY.load1 Tone_3 rfl (Cells.env (k := 0) hc rfl (by decide) ⟨rfl, trivial⟩)) ?_
 refine Run.y (.int .i64 (((q : Nat) : Int))) rfl (OpY.shlOne rfl rfl rfl (by omega) hq) ?_
 refine Run.y (.int .i64 ((((q : Nat) : Int)) - 1)) rfl (OpY.sub rfl rfl rfl (by omega) (by omega)) ?_
 refine Run.q (v := .bool (within x 0 (((q : Nat) : Int) - 1))) rfl (OpQ.call (vs := [.int .i64 x, .int .i64 0, .int .i64 ((((q : Nat) : Int)) - 1)]) (caps := []) Tcall_73 rfl rfl (fun w hs => within_spec _ _ _ w)) ?_
 refine Run.p (.bool (!(within x 0 (((q : Nat) : Int) - 1)))) rfl rfl ?_
 refine Run.p (.bool (!(within x 0 (((q : Nat) : Int) - 1)))) rfl rfl ?_
 refine Run.done ?_
 refine Run.ret ?_
 refine ⟨.bool (!(within x 0 (((q : Nat) : Int) - 1))), [], Out.one rfl rfl, (Some'.weak (.nil _)), ?_⟩
 rfl

set_option maxHeartbeats 1000000 in
set_option maxRecDepth 20000 in
theorem IndexFuncLin_spec {nn p : Nat} {va : Value} {n : Nat} {xs : List Int} {w : World} (ha : Sl w va 1 n (ints xs)) (hc : Sl w (.slice (some ⟨p, 0, none⟩) 1 1) 1 1 [.int .i64 nn]) (hn5 : nn ≤ 5) : Calls Try.prog 111 #[va, .func (.func 75) #[] #[.pointer (some ⟨p, 0, none⟩)]] w (Post No w fun v _ => v = .int .i64 (findI (fun i => !within (ix xs i) 0 (((2 ^ nn : Nat) : Int) - 1)) n)) := by
 have hxl := ha.len
 have hn := ha.le
 obtain ⟨A, c, rfl, _, _⟩ := ha.form0
 refine enter (n := 19) (args := [.slice A n c, .func (.func 75) #[] #[.pointer (some ⟨p, 0, none⟩)]]) Try.func111 rfl rfl (St.empty _ _) ?_
 refine Run.sr ?_
 refine Run.p (.int .i64 0) rfl rfl ?_
 refine Run.done ?_
 refine Run.seq ?_
 refine Run.sr ?_
 refine Run.p (.slice A n c) rfl rfl ?_
 refine Run.y (.int .i64 (((n : Nat) : Int))) rfl (OpY.len Tsl_22 rfl) ?_
 refine Run.p (.int .i64 0) rfl rfl ?_
 refine Run.done ?_
 refine Run.block ?_
 refine Run.loop (ι := Nat) [4, 5, 8, 9, 10, 11, 12, 13, 14, 15, 16, 17, 18] (fun k => [(8, .int .i64 (((k : Nat) : Int)))]) (fun k => []) (fun k => k ≤ n ∧ (∀ i, i < k → (!within (ix xs i) 0 (((2 ^ nn : Nat) : Int) - 1)) = false)) (fun k => n - k) 0 ?_ ?_ ?_ ?_
 ·exact ⟨Nat.zero_le _, by first | trivial | (intro i hi; omega)⟩
 ·exact ⟨rfl, trivial⟩
 ·exact (Some'.weak (.nil _))
 ·rintro k fr hinv
  show Run _ _ (over _ _ [(8, .int .i64 (((k : Nat) : Int)))] fr) []
  try dsimp only at hinv
  refine Run.sr ?_
  refine Run.p (.bool (decide ((((k : Nat) : Int)) < (((n : Nat) : Int))))) rfl rfl ?_
  refine Run.done ?_
  refine Run.seq ?_
  refine Run.cond (b := decide ((((k : Nat) : Int)) < (((n : Nat) : Int)))) rfl (fun h9 => ?_) (fun h9 => ?_)
  ·have p9 := h9; try simp only [bs] at p9
   have hltk : k < n := by omega
   obtain ⟨b, o, rfl⟩ := ha.opn (by omega)
   refine Run.skip ?_
   refine Run.seq ?_
   refine Run.block ?_
   refine Run.sr ?_
   refine Run.p (.int .i64 (((k : Nat) : Int))) rfl rfl ?_
   refine Run.p (.int .i64 (((k : Nat) : Int))) rfl rfl ?_
   refine Run.dsr ?_
   refine Run.p (.func (.func 75) #[] #[.pointer (some ⟨p, 0, none⟩)]) rfl rfl ?_
   refine Run.p (.slice (some ⟨b, o, none⟩) n c) rfl rfl ?_
   refine Run.p (.int .i64 (((k : Nat) : Int))) rfl rfl ?_
   refine Run.y (.pointer (some ⟨b, o + k, none⟩)) rfl (OpY.index (kk := k) Tsl_22 rfl rfl (by omega) (by omega) (by first | rfl | omega)) ?_
   refine Run.y (.int .i64 (ix xs (k))) rfl (OpY.load1 Tone_3 rfl (Cells.arg (k := k) ha rfl (by omega) (pre1 (by omega)))) ?_
   refine Run.q (v := .bool (!within (ix xs k) 0 (((2 ^ nn : Nat) : Int) - 1))) rfl (OpQ.call (vs := [.int .i64 (ix xs (k)), .pointer (some ⟨p, 0, none⟩)]) (caps := [.pointer (some ⟨p, 0, none⟩)]) Tcall_75 rfl rfl (fun w hs => linClo_spec (hs.sl hc) hn5)) ?_
   refine Run.done ?_
   refine Run.cond (b := !within (ix xs k) 0 (((2 ^ nn : Nat) : Int) - 1)) rfl (fun h16 => ?_) (fun h16 => ?_)
   ·have p16 := h16; try simp only [bs] at p16
    refine Run.seq ?_
    have hres : findI (fun i => !within (ix xs i) 0 (((2 ^ nn : Nat) : Int) - 1)) n = k := findI_hit hinv.2 h16 hltk
    refine Run.region ?_
    refine Run.p (.int .i64 (((k : Nat) : Int))) rfl rfl ?_
    refine Run.p (.int .i64 (((k : Nat) : Int))) rfl rfl ?_
    refine Run.done ?_
    refine Run.ret ?_
    refine ⟨.int .i64 (((k : Nat) : Int)), [], Out.one rfl rfl, (Some'.weak (.nil _)), ?_⟩
    show _ = _; rw [hres]
   ·have p16 := h16; try simp only [bs] at p16
    refine Run.skip ?_
    refine Run.blockEnd ?_
    have hgood : (!within (ix xs k) 0 (((2 ^ nn : Nat) : Int) - 1)) = false := h16
    refine Run.region ?_
    refine Run.y (.int .i64 ((((k : Nat) : Int)) + 1)) rfl (OpY.add rfl rfl rfl (by omega) (by omega)) ?_
    refine Run.p (.int .i64 ((((k : Nat) : Int)) + 1)) rfl rfl ?_
    refine Run.done ?_
    refine Run.goal ⟨(by repeat (first | exact Same.refl _ _ | refine Same.put rfl ?_ | refine Same.over rfl rfl ?_)), k + 1, ?_, ?_, ?_, ?_⟩
    ·refine ⟨by omega, ?_⟩
     intro i hi
     rcases Nat.lt_succ_iff_lt_or_eq.1 hi with h | h
     ·exact hinv.2 i h
     ·rw [h]; exact hgood
    ·omega
    ·exact ⟨(by first | rfl | (congr 1; omega) | simp), trivial⟩
    ·exact (Some'.weak (.nil _))
  ·have p9 := h9; try simp only [bs] at p9
   have hknk : k = n := by omega
   have hres : findI (fun i => !within (ix xs i) 0 (((2 ^ nn : Nat) : Int) - 1)) n = -1 := by rw [← hknk]; exact findI_none hinv.2
   refine Run.exit rfl ?_
   refine Run.sr ?_
   refine Run.p (.int .i64 (-1)) rfl rfl ?_
   refine Run.done ?_
   refine Run.ret ?_
   refine ⟨.int .i64 (-1), [], Out.one rfl rfl, (Some'.weak (.nil _)), ?_⟩
   show _ = _; rw [hres]

set_option maxHeartbeats 1000000 in
set_option maxRecDepth 20000 in
theorem ContainsFuncLin_spec {nn p : Nat} {va : Value} {n : Nat} {xs : List Int} {w : World} (ha : Sl w va 1 n (ints xs)) (hc : Sl w (.slice (some ⟨p, 0, none⟩) 1 1) 1 1 [.int .i64 nn]) (hn5 : nn ≤ 5) : Calls Try.prog 74 #[va, .func (.func 75) #[] #[.pointer (some ⟨p, 0, none⟩)]] w (Post No w fun v _ => v = .bool (anyI (fun i => !within (ix xs i) 0 (((2 ^ nn : Nat) : Int) - 1)) n)) := by
 refine enter (n := 9) (args := [va, .func (.func 75) #[] #[.pointer (some ⟨p, 0, none⟩)]]) Try.func74 rfl rfl (St.empty _ _) ?_
 refine Run.sr ?_
 refine Run.p (.bool false) rfl rfl ?_
 refine Run.dsr ?_
 refine Run.p (va) rfl rfl ?_
 refine Run.p (.func (.func 75) #[] #[.pointer (some ⟨p, 0, none⟩)]) rfl rfl ?_
 refine Run.q (v := .int .i64 (findI (fun i => !within (ix xs i) 0 (((2 ^ nn : Nat) : Int) - 1)) n)) rfl (OpQ.call (vs := [va, .func (.func 75) #[] #[.pointer (some ⟨p, 0, none⟩)]]) (caps := []) Tcall_111 rfl rfl (fun w hs => IndexFuncLin_spec (hs.sl ha) (hs.sl hc) hn5)) ?_
 refine Run.p (.bool (decide ((findI (fun i => !within (ix xs i) 0 (((2 ^ nn : Nat) : Int) - 1)) n) ≥ 0))) rfl rfl ?_
 refine Run.p (.bool (decide ((findI (fun i => !within (ix xs i) 0 (((2 ^ nn : Nat) : Int) - 1)) n) ≥ 0))) rfl rfl ?_
 refine Run.done ?_
 refine Run.ret ?_
 refine ⟨.bool (decide ((findI (fun i => !within (ix xs i) 0 (((2 ^ nn : Nat) : Int) - 1)) n) ≥ 0)), [], Out.one rfl rfl, (Some'.weak (.nil _)), ?_⟩
 show _ = _; rw [findI_ge]

set_option maxHeartbeats 1000000 in
set_option maxRecDepth 20000 in
theorem IsValidLinear_spec {va : Value} {n : Nat} {xs : List Int} {w : World} (ha : Sl w va 1 n (ints xs)) : Calls Try.prog 35 #[.agg #[va]] w (Post No w fun v _ => v = .bool (linOk xs n)) := by
 have hxl := ha.len
 rw [Nat.mul_one] at hxl
 have hn := ha.le
 obtain ⟨A, c, rfl, _, _⟩ := ha.form0
 refine enter (n := 23) (args := [.agg #[.slice A n c]]) Try.func35 rfl rfl (St.empty _ _) ?_
 refine Run.sr ?_
 refine Run.step rfl (OpStep.box (us := [.slice A n c]) rfl fun b1 => ?_)
 refine Run.p (.bool false) rfl rfl ?_
 refine Run.dsr ?_
 refine Run.y (.pointer (some ⟨b1, 0, none⟩)) rfl (OpY.fieldAddr Tfo_28_0 rfl rfl) ?_
 refine Run.y (.slice A n c) rfl (OpY.load1 Tone_22 rfl (Cells.blk (.head _) ⟨rfl, trivial⟩)) ?_
 refine Run.y (.int .i64 (((n : Nat) : Int))) rfl (OpY.len Tsl_22 rfl) ?_
 refine Run.step rfl (OpStep.alloc (zs := [.int .i64 0]) Tzero_3 fun b2 => ?_)
 refine Run.step rfl (OpStep.storeAll (us := [.int .i64 (((n : Nat) : Int))]) Tsize_3 rfl rfl rfl (.here _) rfl ?_)
 refine Run.done ?_
 refine Run.seq ?_
 refine Run.draws (by kernel_rfl) (by kernel_rfl) ?_
 refine Lex.q (v := .int .i64 (((n : Nat) : Int))) rfl (OpQ.y (OpY.load1 Tone_3 rfl (Cells.blk (.head _) ⟨rfl, trivial⟩))) ?_
 refine Lex.q (v := .bool (within (n : Int) 1 5)) rfl (OpQ.call (vs := [.int .i64 (((n : Nat) : Int)), .int .i64 1, .int .i64 5]) (caps := []) Tcall_73 rfl rfl (fun w hs => within_spec _ _ _ w)) ?_
 rcases Bool.eq_false_or_eq_true (within (n : Int) 1 5) with h9 | h9
 ·refine Lex.q (v := .bool true) rfl (OpQ.y (OpY.moveB rfl h9)) ?_
  have p9 := h9; try simp only [bs] at p9
  have hw5 := within_iff.1 p9
  refine Lex.q (v := .pointer (some ⟨b1, 0, none⟩)) rfl (OpQ.y (OpY.fieldAddr Tfo_28_0 rfl rfl)) ?_
  refine Lex.q (v := .slice A n c) rfl (OpQ.y (OpY.load1 Tone_22 rfl (Cells.blk (.tail _ (List.Mem.head _)) ⟨rfl, trivial⟩))) ?_
  refine Lex.q (v := .func (.func 75) #[] #[.pointer (some ⟨b2, 0, none⟩)]) rfl (OpQ.y (OpY.makeFunc (caps := [.pointer (some ⟨b2, 0, none⟩)]) rfl)) ?_
  refine Lex.q (v := .bool (anyI (fun i => !within (ix xs i) 0 (((2 ^ n : Nat) : Int) - 1)) n)) rfl (OpQ.call (vs := [.slice A n c, .func (.func 75) #[] #[.pointer (some ⟨b2, 0, none⟩)]]) (caps := []) Tcall_74 rfl rfl (fun w hs => ContainsFuncLin_spec (hs.sl ha) (hs.slBlk (.head _)) (by omega))) ?_
  refine Lex.q (v := .bool (!(anyI (fun i => !within (ix xs i) 0 (((2 ^ n : Nat) : Int) - 1)) n))) rfl (OpQ.y (OpY.pure rfl)) ?_
  refine Lex.q (v := .bool (!(anyI (fun i => !within (ix xs i) 0 (((2 ^ n : Nat) : Int) - 1)) n))) rfl (OpQ.y (OpY.pure rfl)) ?_
  rcases Bool.eq_false_or_eq_true (!(anyI (fun i => !within (ix xs i) 0 (((2 ^ n : Nat) : Int) - 1)) n)) with h16 | h16
  ·refine Lex.q (v := .bool true) rfl (OpQ.y (OpY.moveB rfl h16)) ?_
   have p16 := h16; try simp only [bs] at p16
   have hin := rows_in hxl (by simpa using p16)
   have hnl : (nats xs).length = n := by simp [nats, hxl]
   have h10 : ∀ x ∈ nats xs, x < 2 ^ 10 := fun x hx => Nat.lt_of_lt_of_le (hin.2 x hx) (Nat.pow_le_pow_right (by omega) (by omega))
   refine Lex.q (v := .pointer (some ⟨b1, 0, none⟩)) rfl (OpQ.y (OpY.fieldAddr Tfo_28_0 rfl rfl)) ?_
   refine Lex.q (v := .slice A n c) rfl (OpQ.y (OpY.load1 Tone_22 rfl (Cells.blk (.tail _ (List.Mem.head _)) ⟨rfl, trivial⟩))) ?_
   refine Lex.q (v := .int .i64 ((((rkS (nats xs) 10).2 : Nat) : Int))) rfl (OpQ.call (vs := [.slice A n c]) (caps := []) Tcall_76 rfl rfl (fun w hs => (by have h := rankOf_spec (r := nats xs) (by rw [hnl]; omega) (by rw [hnl]; omega) h10 (va := .slice A n c) (by rw [hnl, hin.1]; exact hs.sl ha); exact h))) ?_
   refine Lex.q (v := .int .i64 (((n : Nat) : Int))) rfl (OpQ.y (OpY.load1 Tone_3 rfl (Cells.blk (.head _) ⟨rfl, trivial⟩))) ?_
   refine Lex.q (v := .bool (((((rkS (nats xs) 10).2 : Nat) : Int)) == (((n : Nat) : Int)))) rfl (OpQ.y (OpY.pure rfl)) ?_
   refine Lex.q (v := .bool (((((rkS (nats xs) 10).2 : Nat) : Int)) == (((n : Nat) : Int)))) rfl (OpQ.y (OpY.pure rfl)) ?_
   refine Lex.q (v := .bool (((((rkS (nats xs) 10).2 : Nat) : Int)) == (((n : Nat) : Int)))) rfl (OpQ.y (OpY.pure rfl)) ?_
   refine Lex.done ?_
   refine Run.ret ?_
   refine ⟨.bool (((((rkS (nats xs) 10).2 : Nat) : Int)) == (((n : Nat) : Int))), [], Out.one rfl rfl, (Some'.weak (.nil _)), ?_⟩
   show _ = _; rw [linOk]; simp_all; try (rw [Bool.eq_iff_iff]; simp; try omega)
  ·refine Lex.q (v := .bool false) rfl (OpQ.y (OpY.moveB rfl h16)) ?_
   have p16 := h16; try simp only [bs] at p16
   refine Lex.pass rfl ?_
   refine Lex.pass rfl ?_
   refine Lex.pass rfl ?_
   refine Lex.pass rfl ?_
   refine Lex.pass rfl ?_
   refine Lex.q (v := .bool false) rfl (OpQ.y (OpY.pure rfl)) ?_
   refine Lex.q (v := .bool false) rfl (OpQ.y (OpY.pure rfl)) ?_
   refine Lex.done ?_
   refine Run.ret ?_
   refine ⟨.bool false, [], Out.one rfl rfl, (Some'.weak (.nil _)), ?_⟩
   show _ = _; rw [linOk]; simp_all; try (rw [Bool.eq_iff_iff]; simp; try omega)
 ·refine Lex.q (v := .bool false) rfl (OpQ.y (OpY.moveB rfl h9)) ?_
  have p9 := h9; try simp only [bs] at p9
  refine Lex.pass rfl ?_
  refine Lex.pass rfl ?_
  refine Lex.pass rfl ?_
  refine Lex.pass rfl ?_
  refine Lex.pass rfl ?_
  refine Lex.q (v := .bool false) rfl (OpQ.y (OpY.pure rfl)) ?_
  refine Lex.q (v := .bool false) rfl (OpQ.y (OpY.pure rfl)) ?_
  refine Lex.pass rfl ?_
  refine Lex.pass rfl ?_
  refine Lex.pass rfl ?_
  refine Lex.pass rfl ?_
  refine Lex.pass rfl ?_
  refine Lex.q (v := .bool false) rfl (OpQ.y (OpY.pure rfl)) ?_
  refine Lex.q (v := .bool false) rfl (OpQ.y (OpY.pure rfl)) ?_
  refine Lex.done ?_
  refine Run.ret ?_
  refine ⟨.bool false, [], Out.one rfl rfl, (Some'.weak (.nil _)), ?_⟩
  show _ = _; rw [linOk]; simp_all; try (rw [Bool.eq_iff_iff]; simp; try omega)

end Go.Proofs.Yteehfidjofcfmaa
/- Walks: the reference's rank, and which linear maps are valid. -/
set_option linter.unusedSimpArgs false
set_option linter.unusedVariables false
namespace Go.Proofs.Yteehfidjofcfmaa
open Go Go.RowKit
namespace Lin3T
theorem Tagg_28 : aggOf Try.prog 28 = some 1 := by kernel_rfl
theorem Tcall_100 : callable Try.prog 100 = true := by kernel_rfl
theorem Tcall_101 : callable Try.prog 101 = true := by kernel_rfl
theorem Tcall_102 : callable Try.prog 102 = true := by kernel_rfl
theorem Tcall_60 : callable Try.prog 60 = true := by kernel_rfl
theorem Tcall_92 : callable Try.prog 92 = true := by kernel_rfl
theorem Tfo_28_0 : fieldOff Try.prog 28 0 = some 0 := by kernel_rfl
theorem Tint_96 : Try.prog.underlying 96 = some (.int .u64) := by kernel_rfl
theorem Tone_22 : oneOf Try.prog 22 = true := by kernel_rfl
theorem Tone_3 : oneOf Try.prog 3 = true := by kernel_rfl
theorem Tsize_3 : (Try.prog.info? 3).map (·.size) = some 1 := by kernel_rfl
theorem Tsl_22 : sliceOf Try.prog 22 = some (3, 1, 8, [.int .i64 0]) := by kernel_rfl
theorem Tsome_3 : (Try.prog.underlying 3).isSome = true := by kernel_rfl
end Lin3T
open Lin3T
theorem scan_at {p : Nat → Bool} {i0 i n : Nat} (h0 : i0 ≤ i) (hn : i < n) (h : ∀ k, i0 ≤ k → k < i → p k = false) (hp : p i = true) : scanR p i0 (n - i0) = i := by
  rcases scanR_spec (p := p) (n := n) (n - i0) i0 (by omega) with ⟨h1, h2⟩ | ⟨h1, h2, h3⟩
  · rw [h2 i h0 hn] at hp; cases hp
  · rcases Nat.lt_trichotomy (scanR p i0 (n - i0)) i with h4 | h4 | h4
    · rw [h _ h1 h4] at h3; cases h3
    · exact h4
    · exfalso
      have key : ∀ (m i1 : Nat), i1 + m = n → i1 ≤ i → ∀ k, i1 ≤ k → k < scanR p i1 m → p k = false := by
        intro m
        induction m with
        | zero => intro i1 hm _ k hk hlt; simp only [scanR] at hlt; omega
        | succ m ih =>
          intro i1 hm hi1 k hk hlt
          simp only [scanR] at hlt
          by_cases hc : p i1 = true
          · rw [if_pos hc] at hlt; omega
          · rw [if_neg hc] at hlt
            by_cases e : k = i1
            · subst e; simpa using hc
            · by_cases h5 : i1 + 1 ≤ i
              · exact ih (i1 + 1) (by omega) h5 k (by omega) hlt
              · have : i1 = i := by omega
                subst this; exact absurd hp hc
      have := key (n - i0) i0 (by omega) h0 i h0 h4
      rw [hp] at this; cases this
theorem scan_none {p : Nat → Bool} {i0 n : Nat} (h0 : i0 ≤ n) (h : ∀ k, i0 ≤ k → k < n → p k = false) : scanR p i0 (n - i0) = n := by
  rcases scanR_spec (p := p) (n := n) (n - i0) i0 (by omega) with ⟨h1, _⟩ | ⟨h1, h2, h3⟩
  · exact h1
  · rw [h _ h1 h2] at h3; cases h3
theorem nl_swp (l : List Nat) (i k : Nat) : ((nl l).set i (ix (nl l) k)).set k (ix (nl l) i) = nl (swp l i k) := by
  rw [ix_nl, ix_nl, nl_set, nl_set]; rfl
theorem set_lt {l : List Nat} {k i x : Nat} (h : ∀ j, nx l j < 2 ^ k) (hx : x < 2 ^ k) : ∀ j, nx (l.set i x) j < 2 ^ k := by
  intro j
  by_cases hj : j < l.length
  · rw [nx_set hj]
    by_cases e : i = j
    · rw [if_pos e]; exact hx
    · rw [if_neg e]; exact h j
  · rw [nx_ge (by simp; omega)]; exact Nat.two_pow_pos k
theorem clrN_lt {b rk x k : Nat} {l : List Nat} (h : ∀ j, nx l j < 2 ^ k) (hx : x < 2 ^ k) : ∀ m j, nx (clrN b rk x l m) j < 2 ^ k
  | 0, j => h j
  | m + 1, j => by
    simp only [clrN]
    by_cases hc : m ≠ rk ∧ (nx (clrN b rk x l m) m).testBit b = true
    · rw [if_pos hc]; exact set_lt (clrN_lt h hx m) (Nat.xor_lt_two_pow (clrN_lt h hx m m) hx) j
    · rw [if_neg hc]; exact clrN_lt h hx m j
theorem rkR_hit {n b i : Nat} {r : List Nat} (h : atR b n (rkR n r b) = i) (hi : i < n) : rkR n r (b + 1) = (clrN b (rkR n r b).2 (nx (rkR n r b).1 i) (swp (rkR n r b).1 i (rkR n r b).2) n, (rkR n r b).2 + 1) := by
  rw [rkR, rstep, if_neg (by omega), h]
theorem rkR_miss {n b : Nat} {r : List Nat} (h : atR b n (rkR n r b) = n) : rkR n r (b + 1) = rkR n r b := by
  rw [rkR, rstep, if_pos h]
theorem rkR_lt {n k b : Nat} {r : List Nat} (hl : r.length = n) (hb : ∀ x ∈ r, x < 2 ^ k) : ∀ i, nx (rkR n r b).1 i < 2 ^ k := by
  intro i
  by_cases hi : i < n
  · exact rkR_bound hl (fun i _ => nx_lt hb i) b i hi
  · rw [nx_ge (by rw [rkR_length]; omega)]; exact Nat.two_pow_pos k

set_option maxHeartbeats 1000000 in
set_option maxRecDepth 20000 in
theorem l12Rank_spec {va : Value} {n : Nat} {r : List Nat} {w : World} (hl : r.length = n) (h5 : n ≤ 5) (hb : ∀ x ∈ r, x < 2 ^ 10) (ha : Sl w va 1 n (ints (nl r))) : Calls Try.prog 102 #[va] w (Post No w fun v _ => v = .int .i64 ((rkR n r 10).2 : Nat)) := by
 refine enter (n := 80) (args := [va]) Try.func102 rfl rfl (St.empty _ _) ?_
 refine Run.sr ?_
 refine Run.p (.int .i64 0) rfl rfl ?_
 refine Run.dsr ?_
 refine Run.p (va) rfl rfl ?_
 refine Run.step rfl (OpStep.call (vs := [va]) (caps := []) Tcall_92 rfl rfl (fun w hs => l1Own_spec (n := n) (by omega) (hs.sl ha)) ?_)
 rintro uc _ rfl
 show Run _ _ (putF _ _ _ uc) [.own uc 3 1 n (ints (nl r))]
 refine Run.p (uc) rfl rfl ?_
 refine Run.dsr ?_
 refine Run.p (.int .i64 0) rfl rfl ?_
 refine Run.done ?_
 refine Run.seq ?_
 refine Run.sr ?_
 refine Run.p (.int .i64 0) rfl rfl ?_
 refine Run.done ?_
 refine Run.block ?_
 refine Run.loop (ι := Nat) ([4, 5, 6, 7, 8, 9, 12, 13, 14, 15, 16, 17, 18, 19, 20, 21, 22, 23, 24, 25, 26, 27, 28, 29, 30, 31, 32, 33, 34, 35, 36, 37, 38, 39, 40, 41, 42, 43, 44, 45, 46, 47, 48, 49, 50, 51, 52, 53, 54, 55] ++ [56, 57, 58, 59, 60, 61, 62, 63, 64, 65, 66, 67, 68, 69, 70, 71, 72, 73, 74, 75, 76, 77, 78]) (fun bb => [(4, .int .i64 ((((rkR n r bb).2 : Nat) : Int))), (5, .int .i64 (((bb : Nat) : Int)))]) (fun bb => [.own uc 3 1 n (ints (nl ((rkR n r bb).1)))]) (fun bb => bb ≤ 10) (fun bb => 10 - bb) 0 ?_ ?_ ?_ ?_
 ·exact Nat.zero_le _
 ·exact ⟨rfl, rfl, trivial⟩
 ·exact (Some'.weak (.takeEq (by first | rfl | (rw [hnx]; done) | (rw [hnx, hj])) (.nil _)))
 ·rintro bb fr hinv
  show Run _ _ (over _ _ [(4, .int .i64 ((((rkR n r bb).2 : Nat) : Int))), (5, .int .i64 (((bb : Nat) : Int)))] fr) [.own uc 3 1 n (ints (nl ((rkR n r bb).1)))]
  try dsimp only at hinv
  refine Run.seq ?_
  refine Run.sr ?_
  refine Run.p (.int .i64 (((bb : Nat) : Int))) rfl rfl ?_
  refine Run.p (.bool (decide ((((bb : Nat) : Int)) < 10))) rfl rfl ?_
  refine Run.done ?_
  refine Run.cond (b := decide ((((bb : Nat) : Int)) < 10)) rfl (fun h13 => ?_) (fun h13 => ?_)
  ·have p13 := h13; try simp only [bs] at p13
   have hrl : (rkR n r bb).1.length = n := by rw [rkR_length]; exact hl
   have hnl1 := nl_length (rkR n r bb).1
   obtain ⟨pv, hpv⟩ := rkR_piv hl bb
   have hrk := hpv.le
   have hbd := rkR_lt (b := bb) hl hb
   refine Run.skip ?_
   refine Run.seq ?_
   refine Run.block ?_
   refine Run.sr ?_
   refine Run.p (.int .i64 (-1)) rfl rfl ?_
   refine Run.done ?_
   refine Run.seq ?_
   refine Run.sr ?_
   refine Run.p (.int .i64 ((((rkR n r bb).2 : Nat) : Int))) rfl rfl ?_
   refine Run.p (.int .i64 ((((rkR n r bb).2 : Nat) : Int))) rfl rfl ?_
   refine Run.done ?_
   refine Run.block ?_
   refine Run.loop (ι := Nat) [6, 7, 17, 18, 19, 20, 21, 22, 23, 24, 25, 26, 27, 28, 29, 30, 31, 32] (fun i => [(6, .int .i64 (-1)), (7, .int .i64 (((i : Nat) : Int)))]) (fun i => [.own uc 3 1 n (ints (nl ((rkR n r bb).1)))]) (fun i => (rkR n r bb).2 ≤ i ∧ i ≤ n ∧ ∀ k, (rkR n r bb).2 ≤ k → k < i → (nx (rkR n r bb).1 k).testBit bb = false) (fun i => n - i) (rkR n r bb).2 ?_ ?_ ?_ ?_
   ·exact ⟨Nat.le_refl _, hrk, fun k h1 h2 => by omega⟩
   ·exact ⟨rfl, rfl, trivial⟩
   ·exact (Some'.weak (.take (.nil _)))
   ·rintro i fr hinv
    show Run _ _ (over _ _ [(6, .int .i64 (-1)), (7, .int .i64 (((i : Nat) : Int)))] fr) [.own uc 3 1 n (ints (nl ((rkR n r bb).1)))]
    try dsimp only at hinv
    refine Run.seq ?_
    refine Run.sr ?_
    refine Run.p (.int .i64 (((i : Nat) : Int))) rfl rfl ?_
    refine Run.p (uc) rfl rfl ?_
    refine Run.formOwn (.head _) (fun A_uc1 c_uc1 hv hcapc_uc1 hmaxc_uc1 => ?_) (fun _ _ _ => ⟨nofun, nofun, nofun⟩)
    subst hv
    refine Run.y (.int .i64 (((n : Nat) : Int))) rfl (OpY.len Tsl_22 rfl) ?_
    refine Run.p (.bool (decide ((((i : Nat) : Int)) < (((n : Nat) : Int))))) rfl rfl ?_
    refine Run.done ?_
    refine Run.cond (b := decide ((((i : Nat) : Int)) < (((n : Nat) : Int)))) rfl (fun h20 => ?_) (fun h20 => ?_)
    ·have p20 := h20; try simp only [bs] at p20
     have hin : i < n := by omega
     refine Run.openOwn (.head _) (by omega) (fun g cg hvg hcapg _ => ?_) (fun _ _ _ => ⟨nofun, nofun, nofun⟩)
     injection hvg with hAg _ hcg; subst hAg; subst hcg
     refine Run.skip ?_
     refine Run.seq ?_
     refine Run.block ?_
     refine Run.sr ?_
     refine Run.p (.slice (some ⟨g, 0, none⟩) n c_uc1) rfl rfl ?_
     refine Run.p (.int .i64 (((i : Nat) : Int))) rfl rfl ?_
     refine Run.y (.pointer (some ⟨g, i, none⟩)) rfl (OpY.index (kk := i) Tsl_22 rfl rfl (by omega) (by omega) (by first | rfl | omega)) ?_
     refine Run.y (.int .i64 (ix (nl ((rkR n r bb).1)) (i))) rfl (OpY.load1 Tone_3 rfl (Cells.own0 (.head _) (pre1 (by omega)))) ?_
     refine Run.p (.int .i64 (((bb : Nat) : Int))) rfl rfl ?_
     refine Run.y (.int .u64 (((bb : Nat) : Int))) rfl (OpY.convIntEq Tsome_3 Tint_96 rfl (by rw [IntKind.wrap_u64]; omega)) ?_
     refine Run.y (.int .i64 ((ix (nl ((rkR n r bb).1)) (i)) >>> bb)) rfl (OpY.shr rfl rfl (by first | rfl | omega) (by omega)) ?_
     refine Run.y (.int .i64 (((ix (nl ((rkR n r bb).1)) (i)) >>> bb) % 2)) rfl (OpY.and1 rfl rfl) ?_
     refine Run.p (.bool ((((ix (nl ((rkR n r bb).1)) (i)) >>> bb) % 2) == 1)) rfl rfl ?_
     refine Run.done ?_
     refine Run.cond (b := (((ix (nl ((rkR n r bb).1)) (i)) >>> bb) % 2) == 1) rfl (fun h31 => ?_) (fun h31 => ?_)
     ·have p31 := h31; try simp only [bs] at p31
      have hbit : (nx (rkR n r bb).1 i).testBit bb = true := by rw [← bitI_nl]; exact bitI_true p31
      have hat : atR bb n (rkR n r bb) = i := scan_at hinv.1 hin hinv.2.2 hbit
      have hnx := rkR_hit hat hin
      refine Run.sr ?_
      refine Run.p (.int .i64 (((i : Nat) : Int))) rfl rfl ?_
      refine Run.p (.int .i64 (((i : Nat) : Int))) rfl rfl ?_
      refine Run.done ?_
      refine Run.exit rfl ?_
      refine Run.seq ?_
      refine Run.sr ?_
      refine Run.p (.int .i64 (((i : Nat) : Int))) rfl rfl ?_
      refine Run.p (.bool (decide ((((i : Nat) : Int)) < 0))) rfl rfl ?_
      refine Run.done ?_
      refine Run.cond (b := decide ((((i : Nat) : Int)) < 0)) rfl (fun h34 => ?_) (fun h34 => ?_)
      ·have p34 := h34; try simp only [bs] at p34
       exact absurd p34 (by omega) --DONE
      ·have p34 := h34; try simp only [bs] at p34
       refine Run.skip ?_
       refine Run.sr ?_
       refine Run.p (.slice (some ⟨g, 0, none⟩) n c_uc1) rfl rfl ?_
       refine Run.p (.int .i64 (((i : Nat) : Int))) rfl rfl ?_
       refine Run.y (.pointer (some ⟨g, i, none⟩)) rfl (OpY.index (kk := i) Tsl_22 rfl rfl (by omega) (by omega) (by first | rfl | omega)) ?_
       refine Run.y (.int .i64 (ix (nl ((rkR n r bb).1)) (i))) rfl (OpY.load1 Tone_3 rfl (Cells.own0 (.head _) (pre1 (by omega)))) ?_
       refine Run.p (.int .i64 (ix (nl ((rkR n r bb).1)) (i))) rfl rfl ?_
       refine Run.dsr ?_
       refine Run.p (.slice (some ⟨g, 0, none⟩) n c_uc1) rfl rfl ?_
       refine Run.p (.int .i64 (((i : Nat) : Int))) rfl rfl ?_
       refine Run.p (.slice (some ⟨g, 0, none⟩) n c_uc1) rfl rfl ?_
       refine Run.p (.int .i64 ((((rkR n r bb).2 : Nat) : Int))) rfl rfl ?_
       refine Run.y (.pointer (some ⟨g, (rkR n r bb).2, none⟩)) rfl (OpY.index (kk := (rkR n r bb).2) Tsl_22 rfl rfl (by omega) (by omega) (by first | rfl | omega)) ?_
       refine Run.y (.int .i64 (ix (nl ((rkR n r bb).1)) ((rkR n r bb).2))) rfl (OpY.load1 Tone_3 rfl (Cells.own0 (.head _) (pre1 (by omega)))) ?_
       refine Run.y (.pointer (some ⟨g, i, none⟩)) rfl (OpY.index (kk := i) Tsl_22 rfl rfl (by omega) (by omega) (by first | rfl | omega)) ?_
       refine Run.step rfl (OpStep.storeOwnInt (o := i) (a := ix (nl ((rkR n r bb).1)) ((rkR n r bb).2)) Tsize_3 rfl rfl (.here _) (by omega) ?_)
       refine Run.dsr ?_
       refine Run.p (.slice (some ⟨g, 0, none⟩) n c_uc1) rfl rfl ?_
       refine Run.p (.int .i64 ((((rkR n r bb).2 : Nat) : Int))) rfl rfl ?_
       refine Run.p (.int .i64 (ix (nl ((rkR n r bb).1)) (i))) rfl rfl ?_
       refine Run.y (.pointer (some ⟨g, (rkR n r bb).2, none⟩)) rfl (OpY.index (kk := (rkR n r bb).2) Tsl_22 rfl rfl (by omega) (by omega) (by first | rfl | omega)) ?_
       refine Run.step rfl (OpStep.storeOwnInt (o := (rkR n r bb).2) (a := ix (nl ((rkR n r bb).1)) (i)) Tsize_3 rfl rfl (.here _) (by omega) ?_)
       refine Run.done ?_
       refine Run.seq ?_
       refine Run.sr ?_
       refine Run.p (.slice (some ⟨g, 0, none⟩) n c_uc1) rfl rfl ?_
       refine Run.y (.int .i64 (((n : Nat) : Int))) rfl (OpY.len Tsl_22 rfl) ?_
       refine Run.p (.int .i64 0) rfl rfl ?_
       refine Run.done ?_
       refine Run.block ?_
       refine Run.loop (ι := Nat) [9, 52, 53, 54, 55, 56, 57, 58, 59, 60, 61, 62, 63, 64, 65, 66, 67, 68, 69, 70, 71, 72, 73, 74, 75, 76] (fun j => [(52, .int .i64 (((j : Nat) : Int)))]) (fun j => [.own (.slice (some ⟨g, 0, none⟩) n c_uc1) 3 1 n (ints (nl (clrN bb (rkR n r bb).2 (nx (rkR n r bb).1 i) (swp (rkR n r bb).1 i (rkR n r bb).2) j)))]) (fun j => j ≤ n) (fun j => n - j) 0 ?_ ?_ ?_ ?_
       ·exact Nat.zero_le _
       ·exact ⟨rfl, trivial⟩
       ·exact (Some'.weak (.takeEq (by first | rfl | (rw [hX]; done) | (rw [hX, nl_set]; done) | (rw [nl_swp]; rfl)) (.nil _)))
       ·rintro j fr hinv
        show Run _ _ (over _ _ [(52, .int .i64 (((j : Nat) : Int)))] fr) [.own (.slice (some ⟨g, 0, none⟩) n c_uc1) 3 1 n (ints (nl (clrN bb (rkR n r bb).2 (nx (rkR n r bb).1 i) (swp (rkR n r bb).1 i (rkR n r bb).2) j)))]
        try dsimp only at hinv
        refine Run.sr ?_
        refine Run.p (.bool (decide ((((j : Nat) : Int)) < (((n : Nat) : Int))))) rfl rfl ?_
        refine Run.done ?_
        refine Run.seq ?_
        refine Run.cond (b := decide ((((j : Nat) : Int)) < (((n : Nat) : Int)))) rfl (fun h53 => ?_) (fun h53 => ?_)
        ·have p53 := h53; try simp only [bs] at p53
         have hjn : j < n := by omega
         have hcl : (clrN bb (rkR n r bb).2 (nx (rkR n r bb).1 i) (swp (rkR n r bb).1 i (rkR n r bb).2) j).length = n := by rw [clrN_length, swp_length]; exact hrl
         have hnl2 := nl_length (clrN bb (rkR n r bb).2 (nx (rkR n r bb).1 i) (swp (rkR n r bb).1 i (rkR n r bb).2) j)
         refine Run.skip ?_
         refine Run.seq ?_
         refine Run.block ?_
         refine Run.sr ?_
         refine Run.p (.int .i64 (((j : Nat) : Int))) rfl rfl ?_
         refine Run.p (.int .i64 (((j : Nat) : Int))) rfl rfl ?_
         refine Run.dsr ?_
         refine Run.p (.int .i64 (((j : Nat) : Int))) rfl rfl ?_
         refine Run.p (.int .i64 ((((rkR n r bb).2 : Nat) : Int))) rfl rfl ?_
         refine Run.p (.bool ((((j : Nat) : Int)) != ((((rkR n r bb).2 : Nat) : Int)))) rfl rfl ?_
         rcases Bool.eq_false_or_eq_true ((((j : Nat) : Int)) != ((((rkR n r bb).2 : Nat) : Int))) with h58 | h58
         ·refine Run.q (v := .bool true) rfl (OpQ.y (OpY.moveB rfl h58)) ?_
          have p58 := h58; try simp only [bs] at p58
          refine Run.p (.slice (some ⟨g, 0, none⟩) n c_uc1) rfl rfl ?_
          refine Run.p (.int .i64 (((j : Nat) : Int))) rfl rfl ?_
          refine Run.y (.pointer (some ⟨g, j, none⟩)) rfl (OpY.index (kk := j) Tsl_22 rfl rfl (by omega) (by omega) (by first | rfl | omega)) ?_
          refine Run.y (.int .i64 (ix (nl (clrN bb (rkR n r bb).2 (nx (rkR n r bb).1 i) (swp (rkR n r bb).1 i (rkR n r bb).2) j)) (j))) rfl (OpY.load1 Tone_3 rfl (Cells.own0 (.head _) (pre1 (by omega)))) ?_
          refine Run.p (.int .i64 (((bb : Nat) : Int))) rfl rfl ?_
          refine Run.y (.int .u64 (((bb : Nat) : Int))) rfl (OpY.convIntEq Tsome_3 Tint_96 rfl (by rw [IntKind.wrap_u64]; omega)) ?_
          refine Run.y (.int .i64 ((ix (nl (clrN bb (rkR n r bb).2 (nx (rkR n r bb).1 i) (swp (rkR n r bb).1 i (rkR n r bb).2) j)) (j)) >>> bb)) rfl (OpY.shr rfl rfl (by first | rfl | omega) (by omega)) ?_
          refine Run.y (.int .i64 (((ix (nl (clrN bb (rkR n r bb).2 (nx (rkR n r bb).1 i) (swp (rkR n r bb).1 i (rkR n r bb).2) j)) (j)) >>> bb) % 2)) rfl (OpY.and1 rfl rfl) ?_
          refine Run.p (.bool ((((ix (nl (clrN bb (rkR n r bb).2 (nx (rkR n r bb).1 i) (swp (rkR n r bb).1 i (rkR n r bb).2) j)) (j)) >>> bb) % 2) == 1)) rfl rfl ?_
          refine Run.p (.bool ((((ix (nl (clrN bb (rkR n r bb).2 (nx (rkR n r bb).1 i) (swp (rkR n r bb).1 i (rkR n r bb).2) j)) (j)) >>> bb) % 2) == 1)) rfl rfl ?_
          refine Run.done ?_
          refine Run.cond (b := (((ix (nl (clrN bb (rkR n r bb).2 (nx (rkR n r bb).1 i) (swp (rkR n r bb).1 i (rkR n r bb).2) j)) (j)) >>> bb) % 2) == 1) rfl (fun h68 => ?_) (fun h68 => ?_)
          ·have p68 := h68; try simp only [bs] at p68
           have hc : j ≠ (rkR n r bb).2 ∧ (nx (clrN bb (rkR n r bb).2 (nx (rkR n r bb).1 i) (swp (rkR n r bb).1 i (rkR n r bb).2) j) j).testBit bb = true := ⟨by omega, by rw [← bitI_nl]; exact bitI_true p68⟩
           have hX : clrN bb (rkR n r bb).2 (nx (rkR n r bb).1 i) (swp (rkR n r bb).1 i (rkR n r bb).2) (j + 1) = (clrN bb (rkR n r bb).2 (nx (rkR n r bb).1 i) (swp (rkR n r bb).1 i (rkR n r bb).2) j).set j (nx (clrN bb (rkR n r bb).2 (nx (rkR n r bb).1 i) (swp (rkR n r bb).1 i (rkR n r bb).2) j) j ^^^ nx (rkR n r bb).1 i) := by rw [clrN, if_pos hc]
           have hv : nx (clrN bb (rkR n r bb).2 (nx (rkR n r bb).1 i) (swp (rkR n r bb).1 i (rkR n r bb).2) j) j < 2 ^ 10 := clrN_lt (set_lt (set_lt hbd (hbd _)) (hbd i)) (hbd i) j j
           have hxv := hbd i
           refine Run.region ?_
           refine Run.p (.slice (some ⟨g, 0, none⟩) n c_uc1) rfl rfl ?_
           refine Run.p (.int .i64 (((j : Nat) : Int))) rfl rfl ?_
           refine Run.y (.pointer (some ⟨g, j, none⟩)) rfl (OpY.index (kk := j) Tsl_22 rfl rfl (by omega) (by omega) (by first | rfl | omega)) ?_
           refine Run.y (.int .i64 (ix (nl (clrN bb (rkR n r bb).2 (nx (rkR n r bb).1 i) (swp (rkR n r bb).1 i (rkR n r bb).2) j)) (j))) rfl (OpY.load1 Tone_3 rfl (Cells.own0 (.head _) (pre1 (by omega)))) ?_
           refine Run.p (.int .i64 (ix (nl ((rkR n r bb).1)) (i))) rfl rfl ?_
           refine Run.y (.int .i64 (((nx (clrN bb (rkR n r bb).2 (nx (rkR n r bb).1 i) (swp (rkR n r bb).1 i (rkR n r bb).2) j) j ^^^ nx (rkR n r bb).1 i : Nat) : Int))) rfl (OpY.xorNat rfl rfl (ix_nl _ _) (ix_nl _ _) (by omega) (by omega)) ?_
           refine Run.y (.pointer (some ⟨g, j, none⟩)) rfl (OpY.index (kk := j) Tsl_22 rfl rfl (by omega) (by omega) (by first | rfl | omega)) ?_
           refine Run.step rfl (OpStep.storeOwnInt (o := j) (a := ((nx (clrN bb (rkR n r bb).2 (nx (rkR n r bb).1 i) (swp (rkR n r bb).1 i (rkR n r bb).2) j) j ^^^ nx (rkR n r bb).1 i : Nat) : Int)) Tsize_3 rfl rfl (.here _) (by omega) ?_)
           refine Run.done ?_
           refine Run.blockEnd ?_
           refine Run.region ?_
           refine Run.y (.int .i64 ((((j : Nat) : Int)) + 1)) rfl (OpY.add rfl rfl rfl (by omega) (by omega)) ?_
           refine Run.p (.int .i64 ((((j : Nat) : Int)) + 1)) rfl rfl ?_
           refine Run.done ?_
           refine Run.goal ⟨(by repeat (first | exact Same.refl _ _ | refine Same.put rfl ?_ | refine Same.over rfl rfl ?_)), j + 1, ?_, ?_, ?_, ?_⟩
           ·omega
           ·omega
           ·exact ⟨(by first | rfl | (congr 1; omega) | simp), trivial⟩
           ·exact (Some'.weak (.takeEq (by first | rfl | (rw [hX]; done) | (rw [hX, nl_set]; done) | (rw [nl_swp]; rfl)) (.nil _)))
          ·have p68 := h68; try simp only [bs] at p68
           have hX : clrN bb (rkR n r bb).2 (nx (rkR n r bb).1 i) (swp (rkR n r bb).1 i (rkR n r bb).2) (j + 1) = clrN bb (rkR n r bb).2 (nx (rkR n r bb).1 i) (swp (rkR n r bb).1 i (rkR n r bb).2) j := by
            rw [clrN, if_neg]
            rintro ⟨h1, h2⟩
            rw [← bitI_nl] at h2
            first | (rw [bitI_ne1 p68] at h2; cases h2) | omega
           refine Run.skip ?_
           refine Run.blockEnd ?_
           refine Run.region ?_
           refine Run.y (.int .i64 ((((j : Nat) : Int)) + 1)) rfl (OpY.add rfl rfl rfl (by omega) (by omega)) ?_
           refine Run.p (.int .i64 ((((j : Nat) : Int)) + 1)) rfl rfl ?_
           refine Run.done ?_
           refine Run.goal ⟨(by repeat (first | exact Same.refl _ _ | refine Same.put rfl ?_ | refine Same.over rfl rfl ?_)), j + 1, ?_, ?_, ?_, ?_⟩
           ·omega
           ·omega
           ·exact ⟨(by first | rfl | (congr 1; omega) | simp), trivial⟩
           ·exact (Some'.weak (.takeEq (by first | rfl | (rw [hX]; done) | (rw [hX, nl_set]; done) | (rw [nl_swp]; rfl)) (.nil _)))
         ·refine Run.q (v := .bool false) rfl (OpQ.y (OpY.moveB rfl h58)) ?_
          have p58 := h58; try simp only [bs] at p58
          have hX : clrN bb (rkR n r bb).2 (nx (rkR n r bb).1 i) (swp (rkR n r bb).1 i (rkR n r bb).2) (j + 1) = clrN bb (rkR n r bb).2 (nx (rkR n r bb).1 i) (swp (rkR n r bb).1 i (rkR n r bb).2) j := by rw [clrN, if_neg fun h => h.1 (by omega)]
          refine Run.pass rfl ?_
          refine Run.pass rfl ?_
          refine Run.pass rfl ?_
          refine Run.pass rfl ?_
          refine Run.pass rfl ?_
          refine Run.pass rfl ?_
          refine Run.pass rfl ?_
          refine Run.pass rfl ?_
          refine Run.pass rfl ?_
          refine Run.p (.bool false) rfl rfl ?_
          refine Run.done ?_
          refine Run.cond (b := false) rfl (fun h => nomatch h) (fun _ => ?_)
          refine Run.skip ?_
          refine Run.blockEnd ?_
          refine Run.region ?_
          refine Run.y (.int .i64 ((((j : Nat) : Int)) + 1)) rfl (OpY.add rfl rfl rfl (by omega) (by omega)) ?_
          refine Run.p (.int .i64 ((((j : Nat) : Int)) + 1)) rfl rfl ?_
          refine Run.done ?_
          refine Run.goal ⟨(by repeat (first | exact Same.refl _ _ | refine Same.put rfl ?_ | refine Same.over rfl rfl ?_)), j + 1, ?_, ?_, ?_, ?_⟩
          ·omega
          ·omega
          ·exact ⟨(by first | rfl | (congr 1; omega) | simp), trivial⟩
          ·exact (Some'.weak (.takeEq (by first | rfl | (rw [hX]; done) | (rw [hX, nl_set]; done) | (rw [nl_swp]; rfl)) (.nil _)))
        ·have p53 := h53; try simp only [bs] at p53
         have hj : j = n := by omega
         refine Run.exit rfl ?_
         refine Run.region ?_
         refine Run.p (.int .i64 ((((rkR n r bb).2 : Nat) : Int))) rfl rfl ?_
         refine Run.y (.int .i64 (((((rkR n r bb).2 : Nat) : Int)) + 1)) rfl (OpY.add rfl rfl rfl (by omega) (by omega)) ?_
         refine Run.p (.int .i64 (((((rkR n r bb).2 : Nat) : Int)) + 1)) rfl rfl ?_
         refine Run.done ?_
         refine Run.blockEnd ?_
         refine Run.region ?_
         refine Run.p (.int .i64 (((bb : Nat) : Int))) rfl rfl ?_
         refine Run.y (.int .i64 ((((bb : Nat) : Int)) + 1)) rfl (OpY.add rfl rfl rfl (by omega) (by omega)) ?_
         refine Run.p (.int .i64 ((((bb : Nat) : Int)) + 1)) rfl rfl ?_
         refine Run.done ?_
         refine Run.goal ⟨(by repeat (first | exact Same.refl _ _ | refine Same.put rfl ?_ | refine Same.over rfl rfl ?_)), bb + 1, ?_, ?_, ?_, ?_⟩
         ·show bb + 1 ≤ 10; omega
         ·show 10 - (bb + 1) < 10 - bb; omega
         ·exact ⟨(by show Value.int _ _ = Value.int _ _; congr 1; rw [hnx]; try (push_cast; rfl)), (by first | rfl | (congr 1; omega) | simp), trivial⟩
         ·exact (Some'.weak (.takeEq (by first | rfl | (rw [hnx]; done) | (rw [hnx, hj])) (.nil _)))
     ·have p31 := h31; try simp only [bs] at p31
      have hbit : (nx (rkR n r bb).1 i).testBit bb = false := by rw [← bitI_nl]; exact bitI_ne1 p31
      refine Run.skip ?_
      refine Run.blockEnd ?_
      refine Run.region ?_
      refine Run.p (.int .i64 (((i : Nat) : Int))) rfl rfl ?_
      refine Run.y (.int .i64 ((((i : Nat) : Int)) + 1)) rfl (OpY.add rfl rfl rfl (by omega) (by omega)) ?_
      refine Run.p (.int .i64 ((((i : Nat) : Int)) + 1)) rfl rfl ?_
      refine Run.done ?_
      refine Run.goal ⟨(by repeat (first | exact Same.refl _ _ | refine Same.put rfl ?_ | refine Same.over rfl rfl ?_)), i + 1, ?_, ?_, ?_, ?_⟩
      ·refine ⟨by omega, by omega, fun k h1 h2 => ?_⟩
       rcases Nat.lt_succ_iff_lt_or_eq.1 h2 with h | h
       ·exact hinv.2.2 k h1 h
       ·rw [h]; exact hbit
      ·omega
      ·exact ⟨(by first | rfl | (congr 1; omega) | simp), (by first | rfl | (congr 1; omega) | simp), trivial⟩
      ·exact (Some'.weak (.takeEq (by first | rfl | simp) (.nil _)))
    ·have p20 := h20; try simp only [bs] at p20
     have hnone : atR bb n (rkR n r bb) = n := scan_none hrk fun k h1 h2 => hinv.2.2 k h1 (by omega)
     have hnx := rkR_miss hnone
     refine Run.exit rfl ?_
     refine Run.seq ?_
     refine Run.sr ?_
     refine Run.p (.int .i64 (-1)) rfl rfl ?_
     refine Run.p (.bool true) rfl rfl ?_
     refine Run.done ?_
     refine Run.cond (b := true) rfl (fun _ => ?_) (fun h => nomatch h)
     refine Run.exit rfl ?_
     refine Run.region ?_
     refine Run.p (.int .i64 (((bb : Nat) : Int))) rfl rfl ?_
     refine Run.y (.int .i64 ((((bb : Nat) : Int)) + 1)) rfl (OpY.add rfl rfl rfl (by omega) (by omega)) ?_
     refine Run.p (.int .i64 ((((bb : Nat) : Int)) + 1)) rfl rfl ?_
     refine Run.done ?_
     refine Run.goal ⟨(by repeat (first | exact Same.refl _ _ | refine Same.put rfl ?_ | refine Same.over rfl rfl ?_)), bb + 1, ?_, ?_, ?_, ?_⟩
     ·show bb + 1 ≤ 10; omega
     ·show 10 - (bb + 1) < 10 - bb; omega
     ·exact ⟨(by show Value.int _ _ = Value.int _ _; congr 1; rw [hnx]; try (push_cast; rfl)), (by first | rfl | (congr 1; omega) | simp), trivial⟩
     ·exact (Some'.weak (.takeEq (by first | rfl | (rw [hnx]; done) | (rw [hnx, hj])) (.nil _)))
  ·have p13 := h13; try simp only [bs] at p13
   have hb10 : bb = 10 := by omega
   refine Run.exit rfl ?_
   refine Run.sr ?_
   refine Run.p (.int .i64 ((((rkR n r bb).2 : Nat) : Int))) rfl rfl ?_
   refine Run.p (.int .i64 ((((rkR n r bb).2 : Nat) : Int))) rfl rfl ?_
   refine Run.done ?_
   refine Run.ret ?_
   refine ⟨.int .i64 ((((rkR n r bb).2 : Nat) : Int)), [], Out.one rfl rfl, (Some'.weak (.nil _)), ?_⟩
   show _ = _; rw [hb10]

set_option maxHeartbeats 1000000 in
set_option maxRecDepth 20000 in
theorem l12Valid_spec {va : Value} {n : Nat} {xs : List Int} {w : World} (ha : Sl w va 1 n (ints xs)) : Calls Try.prog 60 #[.agg #[va]] w (Post No w fun v _ => v = .bool (linOk xs n)) := by
 have hxl := ha.len
 rw [Nat.mul_one] at hxl
 have hn := ha.le
 obtain ⟨A, c, rfl, _, _⟩ := ha.form0
 obtain ⟨q, hq⟩ : ∃ q : Nat, q = 2 ^ n := ⟨_, rfl⟩
 refine enter (n := 25) (args := [.agg #[.slice A n c]]) Try.func60 rfl rfl (St.empty _ _) ?_
 refine Run.sr ?_
 refine Run.step rfl (OpStep.box (us := [.slice A n c]) rfl fun b1 => ?_)
 refine Run.p (.bool false) rfl rfl ?_
 refine Run.dsr ?_
 refine Run.y (.pointer (some ⟨b1, 0, none⟩)) rfl (OpY.fieldAddr Tfo_28_0 rfl rfl) ?_
 refine Run.y (.slice A n c) rfl (OpY.load1 Tone_22 rfl (Cells.blk (.head _) ⟨rfl, trivial⟩)) ?_
 refine Run.y (.int .i64 (((n : Nat) : Int))) rfl (OpY.len Tsl_22 rfl) ?_
 refine Run.p (.int .i64 (((n : Nat) : Int))) rfl rfl ?_
 refine Run.dsr ?_
 refine Run.p (.int .i64 (((n : Nat) : Int))) rfl rfl ?_
 refine Run.q (v := .bool (within (n : Int) 1 5)) rfl (OpQ.call (vs := [.int .i64 (((n : Nat) : Int)), .int .i64 1, .int .i64 5]) (caps := []) Tcall_100 rfl rfl (fun w hs => l1In_spec _ _ _ w)) ?_
 rcases Bool.eq_false_or_eq_true (within (n : Int) 1 5) with h9 | h9
 ·refine Run.q (v := .bool true) rfl (OpQ.y (OpY.moveB rfl h9)) ?_
  have p9 := h9; try simp only [bs] at p9
  have hw5 := within_iff.1 p9
  have hp5 := pow5 (n := n) (by omega)
  rw [← hq] at hp5
  refine Run.y (.pointer (some ⟨b1, 0, none⟩)) rfl (OpY.fieldAddr Tfo_28_0 rfl rfl) ?_
  refine Run.y (.slice A n c) rfl (OpY.load1 Tone_22 rfl (Cells.blk (.head _) ⟨rfl, trivial⟩)) ?_
  refine Run.p (.int .i64 (((n : Nat) : Int))) rfl rfl ?_
  refine Run.y (.int .u64 (((n : Nat) : Int))) rfl (OpY.convIntEq Tsome_3 Tint_96 rfl (by rw [IntKind.wrap_u64]; omega)) ?_
  refine Run.y (.int .i64 (((q : Nat) : Int))) rfl (OpY.shlOne rfl rfl rfl (by omega) hq) ?_
  refine Run.y (.int .i64 ((((q : Nat) : Int)) - 1)) rfl (OpY.sub rfl rfl rfl (by omega) (by omega)) ?_
  refine Run.q (v := .bool (!anyI (fun i => !within (ix xs i) 0 (((q : Nat) : Int) - 1)) n)) rfl (OpQ.call (vs := [.slice A n c, .int .i64 0, .int .i64 ((((q : Nat) : Int)) - 1)]) (caps := []) Tcall_101 rfl rfl (fun w hs => l1All_spec (hs.sl ha))) ?_
  refine Run.p (.bool (!anyI (fun i => !within (ix xs i) 0 (((q : Nat) : Int) - 1)) n)) rfl rfl ?_
  rcases Bool.eq_false_or_eq_true (!anyI (fun i => !within (ix xs i) 0 (((q : Nat) : Int) - 1)) n) with h18 | h18
  ·refine Run.q (v := .bool true) rfl (OpQ.y (OpY.moveB rfl h18)) ?_
   have p18 := h18; try simp only [bs] at p18
   have hin := rows_in hxl (by rw [← hq]; simpa using p18)
   have hnl : (nats xs).length = n := by simp [nats, hxl]
   have h10 : ∀ x ∈ nats xs, x < 2 ^ 10 := fun x hx => Nat.lt_of_lt_of_le (hin.2 x hx) (Nat.pow_le_pow_right (by omega) (by omega))
   have hsame := rank_same hnl (by omega) hin.2
   refine Run.y (.pointer (some ⟨b1, 0, none⟩)) rfl (OpY.fieldAddr Tfo_28_0 rfl rfl) ?_
   refine Run.y (.slice A n c) rfl (OpY.load1 Tone_22 rfl (Cells.blk (.head _) ⟨rfl, trivial⟩)) ?_
   refine Run.q (v := .int .i64 ((((rkR n (nats xs) 10).2 : Nat) : Int))) rfl (OpQ.call (vs := [.slice A n c]) (caps := []) Tcall_102 rfl rfl (fun w hs => (by have h := l12Rank_spec (r := nats xs) (va := .slice A n c) hnl (by omega) h10 (by rw [hin.1]; exact hs.sl ha); exact h))) ?_
   refine Run.p (.int .i64 (((n : Nat) : Int))) rfl rfl ?_
   refine Run.p (.bool (((((rkR n (nats xs) 10).2 : Nat) : Int)) == (((n : Nat) : Int)))) rfl rfl ?_
   refine Run.p (.bool (((((rkR n (nats xs) 10).2 : Nat) : Int)) == (((n : Nat) : Int)))) rfl rfl ?_
   refine Run.p (.bool (((((rkR n (nats xs) 10).2 : Nat) : Int)) == (((n : Nat) : Int)))) rfl rfl ?_
   refine Run.done ?_
   refine Run.ret ?_
   refine ⟨.bool (((((rkR n (nats xs) 10).2 : Nat) : Int)) == (((n : Nat) : Int))), [], Out.one rfl rfl, (Some'.weak (.nil _)), ?_⟩
   show _ = _; rw [linOk, ← hq]; simp_all; try (rw [Bool.eq_iff_iff]; simp; try (rw [← hsame]; omega))
  ·refine Run.q (v := .bool false) rfl (OpQ.y (OpY.moveB rfl h18)) ?_
   have p18 := h18; try simp only [bs] at p18
   refine Run.pass rfl ?_
   refine Run.pass rfl ?_
   refine Run.pass rfl ?_
   refine Run.pass rfl ?_
   refine Run.pass rfl ?_
   refine Run.p (.bool false) rfl rfl ?_
   refine Run.p (.bool false) rfl rfl ?_
   refine Run.done ?_
   refine Run.ret ?_
   refine ⟨.bool false, [], Out.one rfl rfl, (Some'.weak (.nil _)), ?_⟩
   show _ = _; rw [linOk, ← hq]; simp_all; try (rw [Bool.eq_iff_iff]; simp; try (rw [← hsame]; omega))
 ·refine Run.q (v := .bool false) rfl (OpQ.y (OpY.moveB rfl h9)) ?_
  have p9 := h9; try simp only [bs] at p9
  refine Run.pass rfl ?_
  refine Run.pass rfl ?_
  refine Run.pass rfl ?_
  refine Run.pass rfl ?_
  refine Run.pass rfl ?_
  refine Run.pass rfl ?_
  refine Run.pass rfl ?_
  refine Run.p (.bool false) rfl rfl ?_
  refine Run.p (.bool false) rfl rfl ?_
  refine Run.pass rfl ?_
  refine Run.pass rfl ?_
  refine Run.pass rfl ?_
  refine Run.pass rfl ?_
  refine Run.pass rfl ?_
  refine Run.p (.bool false) rfl rfl ?_
  refine Run.p (.bool false) rfl rfl ?_
  refine Run.done ?_
  refine Run.ret ?_
  refine ⟨.bool false, [], Out.one rfl rfl, (Some'.weak (.nil _)), ?_⟩
  show _ = _; rw [linOk, ← hq]; simp_all; try (rw [Bool.eq_iff_iff]; simp; try (rw [← hsame]; omega))

end Go.Proofs.Yteehfidjofcfmaa
/- Walks: the identity, additions and codes of linear maps. -/
set_option linter.unusedSimpArgs false
set_option linter.unusedVariables false
namespace Go.Proofs.Yteehfidjofcfmaa
open Go Go.RowKit
namespace Lin4T
theorem Tagg_28 : aggOf Try.prog 28 = some 1 := by kernel_rfl
theorem Tfo_28_0 : fieldOff Try.prog 28 0 = some 0 := by kernel_rfl
theorem Tint_96 : Try.prog.underlying 96 = some (.int .u64) := by kernel_rfl
theorem Tone_22 : oneOf Try.prog 22 = true := by kernel_rfl
theorem Tsize_22 : (Try.prog.info? 22).map (·.size) = some 1 := by kernel_rfl
theorem Tsize_28 : (Try.prog.info? 28).map (·.size) = some 1 := by kernel_rfl
theorem Tsl_22 : sliceOf Try.prog 22 = some (3, 1, 8, [.int .i64 0]) := by kernel_rfl
theorem Tsome_3 : (Try.prog.underlying 3).isSome = true := by kernel_rfl
theorem Tzero_28 : zeroOf Try.prog 28 = some [.slice none 0 0] := by kernel_rfl
end Lin4T
open Lin4T
theorem idL_succ (n : Nat) : idL (n + 1) = idL n ++ [2 ^ n] := by simp [idL, List.range_succ]
theorem ints_idL (n q : Nat) (h : q = 2 ^ n) : ints (nl (idL n)) ++ [.int .i64 (q : Int)] = ints (nl (idL (n + 1))) := by
  rw [idL_succ, ← h]; simp [nl, ints]

set_option maxHeartbeats 1000000 in
set_option maxRecDepth 20000 in
theorem l12Identity_spec {n : Nat} (hn : n ≤ 5) (w : World) : Calls Try.prog 70 #[.int .i64 (n : Int)] w (Post No w fun v H => ∃ u, v = .agg #[u] ∧ H = [.own u 3 1 n (ints (nl (idL n)))]) := by
 refine enter (n := 19) (args := [.int .i64 (((n : Nat) : Int))]) Try.func70 rfl rfl (St.empty _ _) ?_
 refine Run.sr ?_
 refine Run.step rfl (OpStep.alloc (zs := [.slice none 0 0]) Tzero_28 fun b1 => ?_)
 refine Run.dsr ?_
 refine Run.step rfl (OpStep.alloc (zs := [.slice none 0 0]) Tzero_28 fun b2 => ?_)
 refine Run.done ?_
 refine Run.seq ?_
 refine Run.sr ?_
 refine Run.p (.int .i64 0) rfl rfl ?_
 refine Run.done ?_
 refine Run.block ?_
 refine Run.weak (H' := [.own (.slice none 0 0) 3 1 0 ([]), .blk b2 28 [.slice none 0 0], .blk b1 28 [.slice none 0 0]]) (Weak.nilOwn _ _) ?_ ⟨_, _, rfl, fun _ => nofun, fun _ => nofun⟩
 refine Run.loop (ι := Nat × Value) [4, 5, 6, 7, 8, 9, 10, 11, 12, 13, 14, 15, 16, 17] (fun ⟨i, v⟩ => [(4, .int .i64 (((i : Nat) : Int)))]) (fun ⟨i, v⟩ => [.own v 3 1 i (ints (nl (idL i))), .blk b2 28 [v], .blk b1 28 [.slice none 0 0]]) (fun ⟨i, v⟩ => i ≤ n) (fun ⟨i, v⟩ => n - i) (0, .slice none 0 0) ?_ ?_ ?_ ?_
 ·exact Nat.zero_le _
 ·exact ⟨rfl, trivial⟩
 ·exact ((Weak.refl _).trans (Some'.weak (.takeEq (by first | rfl | simp [idL, nl, ints]) (.takeEq (by first | rfl | simp [idL, nl, ints]) (.take (.nil _))))))
 ·rintro ⟨i, v⟩ fr hinv
  show Run _ _ (over _ _ [(4, .int .i64 (((i : Nat) : Int)))] fr) [.own v 3 1 i (ints (nl (idL i))), .blk b2 28 [v], .blk b1 28 [.slice none 0 0]]
  try dsimp only at hinv
  refine Run.seq ?_
  refine Run.sr ?_
  refine Run.p (.int .i64 (((i : Nat) : Int))) rfl rfl ?_
  refine Run.p (.int .i64 (((n : Nat) : Int))) rfl rfl ?_
  refine Run.p (.bool (decide ((((i : Nat) : Int)) < (((n : Nat) : Int))))) rfl rfl ?_
  refine Run.done ?_
  refine Run.cond (b := decide ((((i : Nat) : Int)) < (((n : Nat) : Int)))) rfl (fun h7 => ?_) (fun h7 => ?_)
  ·have p7 := h7; try simp only [bs] at p7
   have hlt : i < n := by omega
   have hp5 := pow5 (n := i) (by omega)
   obtain ⟨q, hq⟩ : ∃ q : Nat, q = 2 ^ i := ⟨_, rfl⟩
   rw [← hq] at hp5
   refine Run.skip ?_
   refine Run.seq ?_
   refine Run.block ?_
   refine Run.region ?_
   refine Run.y (.pointer (some ⟨b2, 0, none⟩)) rfl (OpY.fieldAddr Tfo_28_0 rfl rfl) ?_
   refine Run.y (v) rfl (OpY.load1 Tone_22 rfl (Cells.blk (.tail _ (List.Mem.head _)) ⟨rfl, trivial⟩)) ?_
   refine Run.p (.int .i64 (((i : Nat) : Int))) rfl rfl ?_
   refine Run.y (.int .u64 (((i : Nat) : Int))) rfl (OpY.convIntEq Tsome_3 Tint_96 rfl (by (rw [IntKind.wrap_u64]; omega))) ?_
   refine Run.y (.int .i64 (((q : Nat) : Int))) rfl (OpY.shlOne rfl rfl rfl (by omega) hq) ?_
   refine Run.step rfl (OpStep.buildSlice (us := [.int .i64 (((q : Nat) : Int))]) Tsl_22 (by decide) (by decide) ⟨rfl, [.int .i64 (((q : Nat) : Int))], _, rfl, rfl, rfl, rfl⟩ rfl fun b3 => ?_)
   refine Run.step rfl (OpStep.append (H1 := [.own (.slice (some ⟨b3, 0, none⟩) 1 1) 3 1 1 ([.int .i64 (((q : Nat) : Int))])]) (H2 := [.blk b2 28 [v], .blk b1 28 [.slice none 0 0]]) (v := v) (u := .slice (some ⟨b3, 0, none⟩) 1 1) (n := i) (m := 1) (xs := ints (nl (idL i))) (ys := [.int .i64 (((q : Nat) : Int))]) Tsl_22 (by decide) rfl rfl rfl rfl (fun w hs => hs.slOwn (.head _)) (by simp [Value.oneCell']) (by omega) (by simp only [maxLen]; omega) fun av1 hnav1 => ?_)
   refine Run.weak (H' := [.own (.slice (some ⟨b3, 0, none⟩) 1 1) 3 1 1 ([.int .i64 (((q : Nat) : Int))]), .own av1 3 1 (i + 1) (ints (nl (idL (i + 1)))), .blk b2 28 [v], .blk b1 28 [.slice none 0 0]]) (Some'.weak (.take (.takeEq (by rw [ints_idL _ _ hq]) (.take (.take (.nil _)))))) ?_ ⟨_, _, rfl, fun _ => nofun, fun _ => nofun⟩
   refine Run.y (.pointer (some ⟨b2, 0, none⟩)) rfl (OpY.fieldAddr Tfo_28_0 rfl rfl) ?_
   refine Run.formOwn (.tail _ (List.Mem.head _)) (fun A_av11 c_av11 hv hcapc_av11 hmaxc_av11 => ?_) (fun _ _ _ => ⟨nofun, nofun, nofun⟩)
   subst hv
   refine Run.step rfl (OpStep.storeAll (us := [.slice A_av11 (i + 1) c_av11]) Tsize_22 rfl rfl rfl (.there _ (.there _ (.here _))) rfl ?_)
   refine Run.done ?_
   refine Run.blockEnd ?_
   refine Run.region ?_
   refine Run.p (.int .i64 (((i : Nat) : Int))) rfl rfl ?_
   refine Run.y (.int .i64 ((((i : Nat) : Int)) + 1)) rfl (OpY.add rfl rfl rfl (by omega) (by omega)) ?_
   refine Run.p (.int .i64 ((((i : Nat) : Int)) + 1)) rfl rfl ?_
   refine Run.done ?_
   refine Run.goal ⟨(by repeat (first | exact Same.refl _ _ | refine Same.put rfl ?_ | refine Same.over rfl rfl ?_)), (i + 1, .slice A_av11 (i + 1) c_av11), ?_, ?_, ?_, ?_⟩
   ·exact hlt
   ·show n - (i + 1) < n - i; omega
   ·exact ⟨(by first | rfl | (congr 1; omega) | simp), trivial⟩
   ·exact ((Weak.selF [1, 1, 1]).trans (Some'.weak (.takeEq (by first | rfl | simp [idL, nl, ints]) (.takeEq (by first | rfl | simp [idL, nl, ints]) (.take (.nil _))))))
  ·have p7 := h7; try simp only [bs] at p7
   have hin : i = n := by omega
   refine Run.exit rfl ?_
   refine Run.sr ?_
   refine Run.y (.agg #[v]) rfl (OpY.loadN (cs := [v]) Tagg_28 rfl (Cells.blk (.tail _ (List.Mem.head _)) ⟨rfl, trivial⟩)) ?_
   refine Run.formOwn (.head _) (fun A_v1 c_v1 hv hcapc_v1 hmaxc_v1 => ?_) (fun _ _ _ => ⟨nofun, nofun, nofun⟩)
   subst hv
   refine Run.step rfl (OpStep.storeAll (us := [.slice A_v1 i c_v1]) Tsize_28 rfl rfl rfl (.there _ (.there _ (.here _))) rfl ?_)
   refine Run.done ?_
   refine Run.ret ?_
   refine ⟨.agg #[.slice A_v1 i c_v1], [.own (.slice A_v1 i c_v1) 3 1 n (ints (nl (idL n)))], Out.cell1 (cs := [.slice A_v1 i c_v1]) rfl Tagg_28 rfl (Cells.blk (.tail _ (.tail _ (List.Mem.head _))) ⟨rfl, trivial⟩), (Some'.weak (.takeEq (by first | rfl | (rw [hin])) (.nil _))), ?_⟩
   exact ⟨_, rfl, rfl⟩

set_option maxHeartbeats 1000000 in
set_option maxRecDepth 20000 in
theorem identityLinear_spec {n : Nat} (hn : n ≤ 5) (w : World) : Calls Try.prog 67 #[.int .i64 (n : Int)] w (Post No w fun v H => ∃ u, v = .agg #[u] ∧ H = [.own u 3 1 n (ints (nl (idL n)))]) := by
 refine enter (n := 19) (args := [.int .i64 (((n : Nat) : Int))]) Try.func67 rfl rfl (St.empty _ _) ?_
 refine Run.sr ?_
 refine Run.step rfl (OpStep.alloc (zs := [.slice none 0 0]) Tzero_28 fun b1 => ?_)
 refine Run.dsr ?_
 refine Run.y (.agg #[.slice none 0 0]) rfl (OpY.build (cs := [.slice none 0 0]) (by kernel_rfl)) ?_
 refine Run.step rfl (OpStep.alloc (zs := [.slice none 0 0]) Tzero_28 fun b2 => ?_)
 refine Run.step rfl (OpStep.storeAll (us := [.slice none 0 0]) Tsize_28 rfl rfl rfl (.here _) rfl ?_)
 refine Run.done ?_
 refine Run.seq ?_
 refine Run.sr ?_
 refine Run.p (.int .i64 (((n : Nat) : Int))) rfl rfl ?_
 refine Run.p (.int .i64 0) rfl rfl ?_
 refine Run.done ?_
 refine Run.block ?_
 refine Run.weak (H' := [.own (.slice none 0 0) 3 1 0 ([]), .blk b2 28 [.slice none 0 0], .blk b1 28 [.slice none 0 0]]) (Weak.nilOwn _ _) ?_ ⟨_, _, rfl, fun _ => nofun, fun _ => nofun⟩
 refine Run.loop (ι := Nat × Value) [4, 7, 8, 9, 10, 11, 12, 13, 14, 15, 16, 17] (fun ⟨i, v⟩ => [(7, .int .i64 (((i : Nat) : Int)))]) (fun ⟨i, v⟩ => [.own v 3 1 i (ints (nl (idL i))), .blk b2 28 [v], .blk b1 28 [.slice none 0 0]]) (fun ⟨i, v⟩ => i ≤ n) (fun ⟨i, v⟩ => n - i) (0, .slice none 0 0) ?_ ?_ ?_ ?_
 ·exact Nat.zero_le _
 ·exact ⟨rfl, trivial⟩
 ·exact ((Weak.refl _).trans (Some'.weak (.takeEq (by first | rfl | simp [idL, nl, ints]) (.takeEq (by first | rfl | simp [idL, nl, ints]) (.take (.nil _))))))
 ·rintro ⟨i, v⟩ fr hinv
  show Run _ _ (over _ _ [(7, .int .i64 (((i : Nat) : Int)))] fr) [.own v 3 1 i (ints (nl (idL i))), .blk b2 28 [v], .blk b1 28 [.slice none 0 0]]
  try dsimp only at hinv
  refine Run.sr ?_
  refine Run.p (.bool (decide ((((i : Nat) : Int)) < (((n : Nat) : Int))))) rfl rfl ?_
  refine Run.done ?_
  refine Run.seq ?_
  refine Run.cond (b := decide ((((i : Nat) : Int)) < (((n : Nat) : Int)))) rfl (fun h8 => ?_) (fun h8 => ?_)
  ·have p8 := h8; try simp only [bs] at p8
   have hlt : i < n := by omega
   have hp5 := pow5 (n := i) (by omega)
   obtain ⟨q, hq⟩ : ∃ q : Nat, q = 2 ^ i := ⟨_, rfl⟩
   rw [← hq] at hp5
   refine Run.skip ?_
   refine Run.seq ?_
   refine Run.block ?_
   refine Run.sr ?_
   refine Run.p (.int .i64 (((i : Nat) : Int))) rfl rfl ?_
   refine Run.p (.int .i64 (((i : Nat) : Int))) rfl rfl ?_
   refine Run.done ?_
   refine Run.lastlyB [7] [.blk b2 28 [v]] (by kernel_rfl) ?_
   refine DL.takeP (i := 0) (v := .pointer (some ⟨b2, 0, none⟩)) rfl (by kernel_rfl) (by kernel_rfl) (by kernel_rfl) (fun _ _ _ h => h) rfl (fun _ => OpY.fieldAddr Tfo_28_0 rfl rfl) ?_
   refine DL.take (i := 1) (v := v) rfl (by kernel_rfl) (by kernel_rfl) (by kernel_rfl) (by kernel_rfl) (fun _ _ _ h => h) (Some'.weak (.skip (.take (.nil _)))) rfl (OpY.load1 Tone_22 rfl (Cells.blk (.head _) ⟨rfl, trivial⟩)) ?_
   refine DL.takeP (i := 2) (v := .int .i64 (((i : Nat) : Int))) rfl (by kernel_rfl) (by kernel_rfl) (by kernel_rfl) (fun _ _ _ h => h) rfl (fun _ => OpY.pure rfl) ?_
   refine DL.takeP (i := 3) (v := .int .i64 (((q : Nat) : Int))) rfl (by kernel_rfl) (by kernel_rfl) (by kernel_rfl) (fun _ _ _ h => h) rfl (fun _ => OpY.shlOne rfl rfl rfl (by omega) hq) ?_
   refine DL.stepS (i := 4) (by kernel_rfl) rfl rfl (OpStep.buildSlice (us := [.int .i64 (((q : Nat) : Int))]) Tsl_22 (by decide) (by decide) ⟨rfl, [.int .i64 (((q : Nat) : Int))], _, rfl, rfl, rfl, rfl⟩ rfl fun b3 => ?_)
   refine ⟨(Some'.weak (.skip (.skip (.take (.nil _))))), ?_⟩
   refine DL.stepS (i := 5) (by kernel_rfl) rfl rfl (OpStep.append (H1 := [.own (.slice (some ⟨b3, 0, none⟩) 1 1) 3 1 1 ([.int .i64 (((q : Nat) : Int))])]) (H2 := [.blk b2 28 [v], .blk b1 28 [.slice none 0 0]]) (v := v) (u := .slice (some ⟨b3, 0, none⟩) 1 1) (n := i) (m := 1) (xs := ints (nl (idL i))) (ys := [.int .i64 (((q : Nat) : Int))]) Tsl_22 (by decide) rfl rfl rfl rfl (fun w hs => hs.slOwn (.head _)) (by simp [Value.oneCell']) (by omega) (by simp only [maxLen]; omega) fun av1 hnav1 => ?_)
   refine DL.weakS (H' := [.own (.slice (some ⟨b3, 0, none⟩) 1 1) 3 1 1 ([.int .i64 (((q : Nat) : Int))]), .own av1 3 1 (i + 1) (ints (nl (idL (i + 1)))), .blk b2 28 [v], .blk b1 28 [.slice none 0 0]]) (Some'.weak (.take (.takeEq (by rw [ints_idL _ _ hq]) (.take (.take (.nil _)))))) ?_
   refine ⟨(Some'.weak (.skip (.skip (.take (.nil _))))), ?_⟩
   refine DL.takeP (i := 6) (v := .pointer (some ⟨b2, 0, none⟩)) rfl (by kernel_rfl) (by kernel_rfl) (by kernel_rfl) (fun _ _ _ h => h) rfl (fun _ => OpY.fieldAddr Tfo_28_0 rfl rfl) ?_
   refine DL.formOwn (.tail _ (List.Mem.head _)) (fun A_av11 c_av11 hv hcapc_av11 hmaxc_av11 => ?_)
   subst hv
   refine DL.step (i := 7) (by kernel_rfl) (by kernel_rfl) rfl rfl (OpStep.storeAll (us := [.slice A_av11 (i + 1) c_av11]) Tsize_22 rfl rfl rfl (.there _ (.there _ (.here _))) rfl ?_)
   refine DL.done (by kernel_rfl) ?_
   refine Run.blockEnd ?_
   refine Run.region ?_
   refine Run.y (.int .i64 ((((i : Nat) : Int)) + 1)) rfl (OpY.add rfl rfl rfl (by omega) (by omega)) ?_
   refine Run.p (.int .i64 ((((i : Nat) : Int)) + 1)) rfl rfl ?_
   refine Run.done ?_
   refine Run.goal ⟨(by repeat (first | exact Same.refl _ _ | refine Same.put rfl ?_ | refine Same.over rfl rfl ?_)), (i + 1, .slice A_av11 (i + 1) c_av11), ?_, ?_, ?_, ?_⟩
   ·exact hlt
   ·show n - (i + 1) < n - i; omega
   ·exact ⟨(by first | rfl | (congr 1; omega) | simp), trivial⟩
   ·exact ((Weak.selF [1, 1, 1]).trans (Some'.weak (.takeEq (by first | rfl | simp [idL, nl, ints]) (.takeEq (by first | rfl | simp [idL, nl, ints]) (.take (.nil _))))))
  ·have p8 := h8; try simp only [bs] at p8
   have hin : i = n := by omega
   refine Run.exit rfl ?_
   refine Run.sr ?_
   refine Run.y (.agg #[v]) rfl (OpY.loadN (cs := [v]) Tagg_28 rfl (Cells.blk (.tail _ (List.Mem.head _)) ⟨rfl, trivial⟩)) ?_
   refine Run.formOwn (.head _) (fun A_v1 c_v1 hv hcapc_v1 hmaxc_v1 => ?_) (fun _ _ _ => ⟨nofun, nofun, nofun⟩)
   subst hv
   refine Run.step rfl (OpStep.storeAll (us := [.slice A_v1 i c_v1]) Tsize_28 rfl rfl rfl (.there _ (.there _ (.here _))) rfl ?_)
   refine Run.done ?_
   refine Run.ret ?_
   refine ⟨.agg #[.slice A_v1 i c_v1], [.own (.slice A_v1 i c_v1) 3 1 n (ints (nl (idL n)))], Out.cell1 (cs := [.slice A_v1 i c_v1]) rfl Tagg_28 rfl (Cells.blk (.tail _ (.tail _ (List.Mem.head _))) ⟨rfl, trivial⟩), (Some'.weak (.takeEq (by first | rfl | (rw [hin])) (.nil _))), ?_⟩
   exact ⟨_, rfl, rfl⟩

end Go.Proofs.Yteehfidjofcfmaa
/- Walks: controlled NOTs, additions, codes. -/
set_option linter.unusedSimpArgs false
set_option linter.unusedVariables false
namespace Go.Proofs.Yteehfidjofcfmaa
open Go Go.RowKit
namespace Lin5T
theorem Tagg_28 : aggOf Try.prog 28 = some 1 := by kernel_rfl
theorem Tcall_125 : callable Try.prog 125 = true := by kernel_rfl
theorem Tcall_92 : callable Try.prog 92 = true := by kernel_rfl
theorem Tfo_28_0 : fieldOff Try.prog 28 0 = some 0 := by kernel_rfl
theorem Tone_22 : oneOf Try.prog 22 = true := by kernel_rfl
theorem Tone_3 : oneOf Try.prog 3 = true := by kernel_rfl
theorem Tsize_28 : (Try.prog.info? 28).map (·.size) = some 1 := by kernel_rfl
theorem Tsize_3 : (Try.prog.info? 3).map (·.size) = some 1 := by kernel_rfl
theorem Tsl_22 : sliceOf Try.prog 22 = some (3, 1, 8, [.int .i64 0]) := by kernel_rfl
theorem Tsl_36 : sliceOf Try.prog 36 = some (71, 3, 24, [.int .i64 0, .int .i64 0, .int .i64 0]) := by kernel_rfl
theorem Tzero_28 : zeroOf Try.prog 28 = some [.slice none 0 0] := by kernel_rfl
end Lin5T
open Lin5T
/-- The controlled NOTs with the control a and a target below b. -/
def cnRow (a : Nat) : Nat → List (Nat × Nat)
  | 0 => []
  | b + 1 => cnRow a b ++ (if a ≠ b then [(a, b)] else [])
def cnP (n : Nat) : Nat → List (Nat × Nat)
  | 0 => []
  | a + 1 => cnP n a ++ cnRow a n
theorem cnRow_le (a : Nat) : ∀ b, (cnRow a b).length ≤ b
  | 0 => Nat.le_refl _
  | b + 1 => by
    have := cnRow_le a b
    simp only [cnRow, List.length_append]
    split <;> simp <;> omega
theorem cnP_le (n : Nat) : ∀ a, (cnP n a).length ≤ a * n
  | 0 => by simp [cnP]
  | a + 1 => by
    have h1 := cnP_le n a
    have h2 := cnRow_le a n
    simp only [cnP, List.length_append]
    rw [Nat.add_mul]; omega
/-- The code of the first k rows. -/
def cdN (l : List Nat) : Nat → Nat
  | 0 => 0
  | k + 1 => cdN l k * 16 ||| nx l k
theorem cdN_lt {l : List Nat} (h : ∀ i, nx l i < 16) : ∀ k, cdN l k < 16 ^ k
  | 0 => by simp [cdN]
  | k + 1 => by
    have ih := cdN_lt h k
    have e : (16 : Nat) ^ (k + 1) = 2 ^ (4 * (k + 1)) := by rw [show (16 : Nat) = 2 ^ 4 from rfl, ← Nat.pow_mul]
    rw [e, cdN]
    refine Nat.or_lt_two_pow ?_ ?_
    · rw [← e, Nat.pow_succ]; omega
    · exact Nat.lt_of_lt_of_le (h k) (by rw [show (16 : Nat) = 2 ^ 4 from rfl]; exact Nat.pow_le_pow_right (by omega) (by omega))
theorem findI_ltn {p : Nat → Bool} : ∀ {n : Nat}, 0 ≤ findI p n → findI p n < n
  | 0, h => by simp [findI] at h
  | n + 1, h => by
    rw [findI] at h ⊢
    split at h
    · rename_i ha
      rw [if_pos ha]
      have := findI_ltn h; omega
    · rename_i ha
      rw [if_neg ha]
      split
      · omega
      · omega
/-- A mask that appears is noted. -/
def apx (f : Nat) (ms : List Int) (x : Int) : Nat := if 0 ≤ findI (fun i => decide (ix ms i = x)) ms.length then f ||| 2 ^ (findI (fun i => decide (ix ms i = x)) ms.length).toNat else f

set_option maxHeartbeats 1000000 in
set_option maxRecDepth 20000 in
theorem controlledNots_spec {n : Nat} (hn : n ≤ 5) (w : World) : Calls Try.prog 95 #[.int .i64 (n : Int)] w (Post No w fun v H => H = [.own v 71 3 (cnP n n).length (ints (flCX (cnP n n)))]) := by
 refine enter (n := 27) (args := [.int .i64 (((n : Nat) : Int))]) Try.func95 rfl rfl (St.empty _ _) ?_
 refine Run.sr ?_
 refine Run.p (.slice none 0 0) rfl rfl ?_
 refine Run.dsr ?_
 refine Run.step rfl (OpStep.buildSlice (us := []) Tsl_36 (by decide) (by decide) rfl rfl fun b1 => ?_)
 refine Run.p (.slice (some ⟨b1, 0, none⟩) 0 0) rfl rfl ?_
 refine Run.done ?_
 refine Run.seq ?_
 refine Run.sr ?_
 refine Run.p (.int .i64 (((n : Nat) : Int))) rfl rfl ?_
 refine Run.p (.int .i64 0) rfl rfl ?_
 refine Run.done ?_
 refine Run.block ?_
 refine Run.loop (ι := Nat × Value) [3, 4, 5, 8, 9, 10, 11, 12, 13, 14, 15, 16, 17, 18, 19, 20, 21, 22, 23, 24, 25] (fun ⟨a, v⟩ => [(3, v), (8, .int .i64 (((a : Nat) : Int)))]) (fun ⟨a, v⟩ => [.own v 71 3 ((cnP n a).length) (ints (flCX (cnP n a)))]) (fun ⟨a, v⟩ => a ≤ n) (fun ⟨a, v⟩ => n - a) (0, .slice (some ⟨b1, 0, none⟩) 0 0) ?_ ?_ ?_ ?_
 ·exact Nat.zero_le _
 ·exact ⟨rfl, rfl, trivial⟩
 ·exact (Some'.weak (.takeEq (by first | rfl | (rw [hbn]; rfl) | simp [cnP, flCX, ints]) (.nil _)))
 ·rintro ⟨a, v⟩ fr hinv
  show Run _ _ (over _ _ [(3, v), (8, .int .i64 (((a : Nat) : Int)))] fr) [.own v 71 3 ((cnP n a).length) (ints (flCX (cnP n a)))]
  try dsimp only at hinv
  refine Run.sr ?_
  refine Run.p (.bool (decide ((((a : Nat) : Int)) < (((n : Nat) : Int))))) rfl rfl ?_
  refine Run.done ?_
  refine Run.seq ?_
  refine Run.cond (b := decide ((((a : Nat) : Int)) < (((n : Nat) : Int)))) rfl (fun h9 => ?_) (fun h9 => ?_)
  ·have p9 := h9; try simp only [bs] at p9
   have hlta : a < n := by omega
   have hle := cnP_le n a
   have hm : a * n ≤ 25 := Nat.le_trans (Nat.mul_le_mul (show a ≤ 5 by omega) hn) (by omega)
   refine Run.skip ?_
   refine Run.seq ?_
   refine Run.block ?_
   refine Run.sr ?_
   refine Run.p (.int .i64 (((a : Nat) : Int))) rfl rfl ?_
   refine Run.p (.int .i64 (((a : Nat) : Int))) rfl rfl ?_
   refine Run.dsr ?_
   refine Run.p (.int .i64 (((n : Nat) : Int))) rfl rfl ?_
   refine Run.p (.int .i64 0) rfl rfl ?_
   refine Run.done ?_
   refine Run.block ?_
   refine Run.loop (ι := Nat × Value) [3, 5, 12, 13, 14, 15, 16, 17, 18, 19, 20, 21, 22, 23, 24] (fun ⟨b, v2⟩ => [(3, v2), (12, .int .i64 (((b : Nat) : Int)))]) (fun ⟨b, v2⟩ => [.own v2 71 3 ((cnP n a ++ cnRow a b).length) (ints (flCX (cnP n a ++ cnRow a b)))]) (fun ⟨b, v2⟩ => b ≤ n) (fun ⟨b, v2⟩ => n - b) (0, v) ?_ ?_ ?_ ?_
   ·exact Nat.zero_le _
   ·exact ⟨rfl, rfl, trivial⟩
   ·exact (Some'.weak (.takeEq (by first | rfl | (rw [hX]) | (rw [hX]; done) | simp [cnRow]) (.nil _)))
   ·rintro ⟨b, v2⟩ fr hinv
    show Run _ _ (over _ _ [(3, v2), (12, .int .i64 (((b : Nat) : Int)))] fr) [.own v2 71 3 ((cnP n a ++ cnRow a b).length) (ints (flCX (cnP n a ++ cnRow a b)))]
    try dsimp only at hinv
    refine Run.sr ?_
    refine Run.p (.bool (decide ((((b : Nat) : Int)) < (((n : Nat) : Int))))) rfl rfl ?_
    refine Run.done ?_
    refine Run.seq ?_
    refine Run.cond (b := decide ((((b : Nat) : Int)) < (((n : Nat) : Int)))) rfl (fun h13 => ?_) (fun h13 => ?_)
    ·have p13 := h13; try simp only [bs] at p13
     have hltb : b < n := by omega
     have hlb := cnRow_le a b
     have hll : (cnP n a ++ cnRow a b).length ≤ 30 := by rw [List.length_append]; omega
     refine Run.skip ?_
     refine Run.seq ?_
     refine Run.block ?_
     refine Run.sr ?_
     refine Run.p (.int .i64 (((b : Nat) : Int))) rfl rfl ?_
     refine Run.p (.int .i64 (((b : Nat) : Int))) rfl rfl ?_
     refine Run.dsr ?_
     refine Run.p (.int .i64 (((a : Nat) : Int))) rfl rfl ?_
     refine Run.p (.int .i64 (((b : Nat) : Int))) rfl rfl ?_
     refine Run.p (.bool ((((a : Nat) : Int)) != (((b : Nat) : Int)))) rfl rfl ?_
     refine Run.done ?_
     refine Run.cond (b := (((a : Nat) : Int)) != (((b : Nat) : Int))) rfl (fun h17 => ?_) (fun h17 => ?_)
     ·have p17 := h17; try simp only [bs] at p17
      have hX : cnP n a ++ cnRow a (b + 1) = cnP n a ++ cnRow a b ++ [(a, b)] := by rw [cnRow, if_pos (by omega), List.append_assoc]
      refine Run.region ?_
      refine Run.p (v2) rfl rfl ?_
      refine Run.p (.int .i64 (((a : Nat) : Int))) rfl rfl ?_
      refine Run.p (.int .i64 (((b : Nat) : Int))) rfl rfl ?_
      refine Run.y (.agg #[.int .i64 9, .int .i64 (((a : Nat) : Int)), .int .i64 (((b : Nat) : Int))]) rfl (OpY.build (cs := [.int .i64 9, .int .i64 (((a : Nat) : Int)), .int .i64 (((b : Nat) : Int))]) (by kernel_rfl)) ?_
      refine Run.step rfl (OpStep.buildSlice (us := [.int .i64 9, .int .i64 (((a : Nat) : Int)), .int .i64 (((b : Nat) : Int))]) Tsl_36 (by decide) (by decide) ⟨rfl, [.int .i64 9, .int .i64 (((a : Nat) : Int)), .int .i64 (((b : Nat) : Int))], _, rfl, rfl, rfl, rfl⟩ rfl fun b2 => ?_)
      refine Run.step rfl (OpStep.append (H1 := [.own (.slice (some ⟨b2, 0, none⟩) 1 1) 71 3 1 ([.int .i64 9, .int .i64 (((a : Nat) : Int)), .int .i64 (((b : Nat) : Int))])]) (H2 := []) (v := v2) (u := .slice (some ⟨b2, 0, none⟩) 1 1) (n := (cnP n a ++ cnRow a b).length) (m := 1) (xs := ints (flCX (cnP n a ++ cnRow a b))) (ys := [.int .i64 9, .int .i64 (((a : Nat) : Int)), .int .i64 (((b : Nat) : Int))]) Tsl_36 (by decide) rfl rfl rfl rfl (fun w hs => hs.slOwn (.head _)) (by simp [Value.oneCell']) (by omega) (by simp only [maxLen]; omega) fun av1 hnav1 => ?_)
      refine Run.weak (H' := [.own (.slice (some ⟨b2, 0, none⟩) 1 1) 71 3 1 ([.int .i64 9, .int .i64 (((a : Nat) : Int)), .int .i64 (((b : Nat) : Int))]), .own av1 71 3 ((cnP n a ++ cnRow a b ++ [(a, b)]).length) (ints (flCX (cnP n a ++ cnRow a b ++ [(a, b)])))]) (Some'.weak (.take (.takeEq (by rw [← ints_flCX]; simp <;> omega) (.nil _)))) ?_ ⟨_, _, rfl, fun _ => nofun, fun _ => nofun⟩
      refine Run.p (av1) rfl rfl ?_
      refine Run.done ?_
      refine Run.blockEnd ?_
      refine Run.region ?_
      refine Run.y (.int .i64 ((((b : Nat) : Int)) + 1)) rfl (OpY.add rfl rfl rfl (by omega) (by omega)) ?_
      refine Run.p (.int .i64 ((((b : Nat) : Int)) + 1)) rfl rfl ?_
      refine Run.done ?_
      refine Run.goal ⟨(by repeat (first | exact Same.refl _ _ | refine Same.put rfl ?_ | refine Same.over rfl rfl ?_)), (b + 1, av1), ?_, ?_, ?_, ?_⟩
      ·exact hltb
      ·show n - (b + 1) < n - b; omega
      ·exact ⟨(by first | rfl | (congr 1; omega) | simp), (by first | rfl | (congr 1; omega) | simp), trivial⟩
      ·exact (Some'.weak (.skip (.takeEq (by first | rfl | (rw [hX]) | (rw [hX]; done) | simp [cnRow]) (.nil _))))
     ·have p17 := h17; try simp only [bs] at p17
      have hX : cnP n a ++ cnRow a (b + 1) = cnP n a ++ cnRow a b := by rw [cnRow, if_neg (by omega), List.append_nil]
      refine Run.skip ?_
      refine Run.blockEnd ?_
      refine Run.region ?_
      refine Run.y (.int .i64 ((((b : Nat) : Int)) + 1)) rfl (OpY.add rfl rfl rfl (by omega) (by omega)) ?_
      refine Run.p (.int .i64 ((((b : Nat) : Int)) + 1)) rfl rfl ?_
      refine Run.done ?_
      refine Run.goal ⟨(by repeat (first | exact Same.refl _ _ | refine Same.put rfl ?_ | refine Same.over rfl rfl ?_)), (b + 1, v2), ?_, ?_, ?_, ?_⟩
      ·exact hltb
      ·show n - (b + 1) < n - b; omega
      ·exact ⟨(by first | rfl | (congr 1; omega) | simp), (by first | rfl | (congr 1; omega) | simp), trivial⟩
      ·exact (Some'.weak (.takeEq (by first | rfl | (rw [hX]) | (rw [hX]; done) | simp [cnRow]) (.nil _)))
    ·have p13 := h13; try simp only [bs] at p13
     have hbn : b = n := by omega
     refine Run.exit rfl ?_
     refine Run.blockEnd ?_
     refine Run.region ?_
     refine Run.y (.int .i64 ((((a : Nat) : Int)) + 1)) rfl (OpY.add rfl rfl rfl (by omega) (by omega)) ?_
     refine Run.p (.int .i64 ((((a : Nat) : Int)) + 1)) rfl rfl ?_
     refine Run.done ?_
     refine Run.goal ⟨(by repeat (first | exact Same.refl _ _ | refine Same.put rfl ?_ | refine Same.over rfl rfl ?_)), (a + 1, v2), ?_, ?_, ?_, ?_⟩
     ·exact hlta
     ·show n - (a + 1) < n - a; omega
     ·exact ⟨(by first | rfl | (congr 1; omega) | simp), (by first | rfl | (congr 1; omega) | simp), trivial⟩
     ·exact (Some'.weak (.takeEq (by first | rfl | (rw [hbn]; rfl) | simp [cnP, flCX, ints]) (.nil _)))
  ·have p9 := h9; try simp only [bs] at p9
   have han : a = n := by omega
   refine Run.exit rfl ?_
   refine Run.sr ?_
   refine Run.p (v) rfl rfl ?_
   refine Run.p (v) rfl rfl ?_
   refine Run.done ?_
   refine Run.ret ?_
   refine ⟨v, [.own v 71 3 ((cnP n n).length) (ints (flCX (cnP n n)))], Out.one rfl rfl, (Some'.weak (.takeEq (by first | rfl | (rw [han])) (.nil _))), ?_⟩
   rfl

set_option maxHeartbeats 1000000 in
set_option maxRecDepth 20000 in
theorem l12CX_spec {va : Value} {l : List Nat} {a b : Nat} {w : World} (h5 : l.length ≤ 5) (ha5 : a < l.length) (hb5 : b < l.length) (hb : ∀ i, nx l i < 32) (ha : Sl w va 1 l.length (ints (nl l))) : Calls Try.prog 71 #[.agg #[va], .int .i64 (a : Int), .int .i64 (b : Int)] w (Post No w fun v H => ∃ u, v = .agg #[u] ∧ H = [.own u 3 1 l.length (ints (nl (cx l (a, b))))]) := by
 refine enter (n := 25) (args := [.agg #[va], .int .i64 (((a : Nat) : Int)), .int .i64 (((b : Nat) : Int))]) Try.func71 rfl rfl (St.empty _ _) ?_
 refine Run.sr ?_
 refine Run.step rfl (OpStep.box (us := [va]) rfl fun b1 => ?_)
 refine Run.step rfl (OpStep.alloc (zs := [.slice none 0 0]) Tzero_28 fun b2 => ?_)
 refine Run.dsr ?_
 refine Run.y (.pointer (some ⟨b1, 0, none⟩)) rfl (OpY.fieldAddr Tfo_28_0 rfl rfl) ?_
 refine Run.y (va) rfl (OpY.load1 Tone_22 rfl (Cells.blk (.tail _ (List.Mem.head _)) ⟨rfl, trivial⟩)) ?_
 refine Run.step rfl (OpStep.call (vs := [va]) (caps := []) Tcall_92 rfl rfl (fun w hs => l1Own_spec (by omega) (hs.sl ha)) ?_)
 rintro uo _ rfl
 show Run _ _ (putF _ _ _ uo) [.own uo 3 1 (l.length) (ints (nl l)), .blk b2 28 [.slice none 0 0], .blk b1 28 [va]]
 have hll := nl_length l
 have hxa := hb a
 have hxb := hb b
 refine Run.formOwn (.head _) (fun A_uo1 c_uo1 hv hcapc_uo1 hmaxc_uo1 => ?_) (fun _ _ _ => ⟨nofun, nofun, nofun⟩)
 subst hv
 refine Run.y (.agg #[.slice A_uo1 (l.length) c_uo1]) rfl (OpY.build (cs := [.slice A_uo1 (l.length) c_uo1]) (by kernel_rfl)) ?_
 refine Run.step rfl (OpStep.alloc (zs := [.slice none 0 0]) Tzero_28 fun b3 => ?_)
 refine Run.step rfl (OpStep.storeAll (us := [.slice A_uo1 (l.length) c_uo1]) Tsize_28 rfl rfl rfl (.here _) rfl ?_)
 refine Run.done ?_
 refine Run.seq ?_
 refine Run.openOwn (.tail _ (List.Mem.head _)) (by omega) (fun g cg hvg hcapg _ => ?_) (fun _ _ _ => ⟨nofun, nofun, nofun⟩)
 injection hvg with hAg _ hcg; subst hAg; subst hcg
 refine Run.lastly [12] (by kernel_rfl) ?_
 refine DL.takeP (i := 0) (v := .pointer (some ⟨b3, 0, none⟩)) rfl (by kernel_rfl) (by kernel_rfl) (by kernel_rfl) (fun _ _ _ h => h) rfl (fun _ => OpY.fieldAddr Tfo_28_0 rfl rfl) ?_
 refine DL.take (i := 1) (v := .slice (some ⟨g, 0, none⟩) (l.length) c_uo1) rfl (by kernel_rfl) (by kernel_rfl) (by kernel_rfl) (by kernel_rfl) (fun _ _ _ h => h) (Some'.weak (.take (.take (.take (.take (.nil _)))))) rfl (OpY.load1 Tone_22 rfl (Cells.blk (.head _) ⟨rfl, trivial⟩)) ?_
 refine DL.takeP (i := 2) (v := .int .i64 (((b : Nat) : Int))) rfl (by kernel_rfl) (by kernel_rfl) (by kernel_rfl) (fun _ _ _ h => h) rfl (fun _ => OpY.pure rfl) ?_
 refine DL.takeP (i := 3) (v := .pointer (some ⟨g, b, none⟩)) rfl (by kernel_rfl) (by kernel_rfl) (by kernel_rfl) (fun _ _ _ h => h) rfl (fun _ => OpY.index (kk := b) Tsl_22 rfl rfl (by omega) (by omega) (by first | rfl | omega)) ?_
 refine DL.take (i := 4) (v := .int .i64 (ix (nl l) (b))) rfl (by kernel_rfl) (by kernel_rfl) (by kernel_rfl) (by kernel_rfl) (fun _ _ _ h => h) (Some'.weak (.take (.take (.take (.take (.nil _)))))) rfl (OpY.load1 Tone_3 rfl (Cells.own0 (.tail _ (List.Mem.head _)) (pre1 (by omega)))) ?_
 refine DL.takeP (i := 5) (v := .pointer (some ⟨b3, 0, none⟩)) rfl (by kernel_rfl) (by kernel_rfl) (by kernel_rfl) (fun _ _ _ h => h) rfl (fun _ => OpY.fieldAddr Tfo_28_0 rfl rfl) ?_
 refine DL.take (i := 6) (v := .slice (some ⟨g, 0, none⟩) (l.length) c_uo1) rfl (by kernel_rfl) (by kernel_rfl) (by kernel_rfl) (by kernel_rfl) (fun _ _ _ h => h) (Some'.weak (.take (.take (.take (.take (.nil _)))))) rfl (OpY.load1 Tone_22 rfl (Cells.blk (.head _) ⟨rfl, trivial⟩)) ?_
 refine DL.takeP (i := 7) (v := .int .i64 (((a : Nat) : Int))) rfl (by kernel_rfl) (by kernel_rfl) (by kernel_rfl) (fun _ _ _ h => h) rfl (fun _ => OpY.pure rfl) ?_
 refine DL.takeP (i := 8) (v := .pointer (some ⟨g, a, none⟩)) rfl (by kernel_rfl) (by kernel_rfl) (by kernel_rfl) (fun _ _ _ h => h) rfl (fun _ => OpY.index (kk := a) Tsl_22 rfl rfl (by omega) (by omega) (by first | rfl | omega)) ?_
 refine DL.take (i := 9) (v := .int .i64 (ix (nl l) (a))) rfl (by kernel_rfl) (by kernel_rfl) (by kernel_rfl) (by kernel_rfl) (fun _ _ _ h => h) (Some'.weak (.take (.take (.take (.take (.nil _)))))) rfl (OpY.load1 Tone_3 rfl (Cells.own0 (.tail _ (List.Mem.head _)) (pre1 (by omega)))) ?_
 refine DL.takeP (i := 10) (v := .int .i64 (((nx l b ^^^ nx l a : Nat) : Int))) rfl (by kernel_rfl) (by kernel_rfl) (by kernel_rfl) (fun _ _ _ h => h) rfl (fun _ => OpY.xorNat rfl rfl (ix_nl _ _) (ix_nl _ _) (by omega) (by omega)) ?_
 refine DL.takeP (i := 11) (v := .pointer (some ⟨g, b, none⟩)) rfl (by kernel_rfl) (by kernel_rfl) (by kernel_rfl) (fun _ _ _ h => h) rfl (fun _ => OpY.index (kk := b) Tsl_22 rfl rfl (by omega) (by omega) (by first | rfl | omega)) ?_
 refine DL.step (i := 12) (by kernel_rfl) (by kernel_rfl) rfl rfl (OpStep.storeOwnInt (o := b) (a := ((nx l b ^^^ nx l a : Nat) : Int)) Tsize_3 rfl rfl (.there _ (.here _)) (by omega) ?_)
 refine DL.done (by kernel_rfl) ?_
 refine Run.sr ?_
 refine Run.y (.agg #[.slice (some ⟨g, 0, none⟩) (l.length) c_uo1]) rfl (OpY.loadN (cs := [.slice (some ⟨g, 0, none⟩) (l.length) c_uo1]) Tagg_28 rfl (Cells.blk (.head _) ⟨rfl, trivial⟩)) ?_
 refine Run.step rfl (OpStep.storeAll (us := [.slice (some ⟨g, 0, none⟩) (l.length) c_uo1]) Tsize_28 rfl rfl rfl (.there _ (.there _ (.here _))) rfl ?_)
 refine Run.done ?_
 refine Run.ret ?_
 refine ⟨.agg #[.slice (some ⟨g, 0, none⟩) (l.length) c_uo1], [.own (.slice (some ⟨g, 0, none⟩) (l.length) c_uo1) 3 1 (l.length) (ints (nl (cx l (a, b))))], Out.cell1 (cs := [.slice (some ⟨g, 0, none⟩) (l.length) c_uo1]) rfl Tagg_28 rfl (Cells.blk (.tail _ (.tail _ (List.Mem.head _))) ⟨rfl, trivial⟩), (Some'.weak (.skip (.takeEq (by rw [nl_set]; rfl) (.nil _)))), ?_⟩
 exact ⟨_, rfl, rfl⟩

set_option maxHeartbeats 1000000 in
set_option maxRecDepth 20000 in
theorem appeared_spec {vm : Value} {f : Nat} {ms : List Int} {x : Int} {w : World} (hf : f < 4294967296) (hm : ms.length ≤ 62) (hms : Sl w vm 1 ms.length (ints ms)) : Calls Try.prog 94 #[.int .i64 (f : Int), vm, .int .i64 x] w (Post No w fun v _ => v = .int .i64 ((apx f ms x : Nat) : Int)) := by
 refine enter (n := 18) (args := [.int .i64 (((f : Nat) : Int)), vm, .int .i64 x]) Try.func94 rfl rfl (St.empty _ _) ?_
 refine Run.sr ?_
 refine Run.p (.int .i64 0) rfl rfl ?_
 refine Run.done ?_
 refine Run.seq ?_
 refine Run.sr ?_
 refine Run.p (vm) rfl rfl ?_
 refine Run.p (.int .i64 x) rfl rfl ?_
 refine Run.q (v := .int .i64 (findI (fun i => decide (ix ms i = x)) ms.length)) rfl (OpQ.call (vs := [vm, .int .i64 x]) (caps := []) Tcall_125 rfl rfl (fun w hs => IndexInt_spec (hs.sl hms))) ?_
 refine Run.p (.int .i64 (findI (fun i => decide (ix ms i = x)) ms.length)) rfl rfl ?_
 refine Run.dsr ?_
 refine Run.p (.int .i64 (findI (fun i => decide (ix ms i = x)) ms.length)) rfl rfl ?_
 refine Run.p (.bool (decide ((findI (fun i => decide (ix ms i = x)) ms.length) ≥ 0))) rfl rfl ?_
 refine Run.done ?_
 refine Run.cond (b := decide ((findI (fun i => decide (ix ms i = x)) ms.length) ≥ 0)) rfl (fun h12 => ?_) (fun h12 => ?_)
 ·have p12 := h12; try simp only [bs] at p12
  have hfl := findI_ltn p12
  have hap : apx f ms x = f ||| 2 ^ (findI (fun i => decide (ix ms i = x)) ms.length).toNat := if_pos p12
  obtain ⟨j, hj⟩ : ∃ j : Nat, findI (fun i => decide (ix ms i = x)) ms.length = j := ⟨(findI (fun i => decide (ix ms i = x)) ms.length).toNat, by omega⟩
  rw [hj, Int.toNat_natCast] at hap
  obtain ⟨q, hq⟩ : ∃ q : Nat, q = 2 ^ j := ⟨_, rfl⟩
  rw [← hq] at hap
  have hq62 : q < 9223372036854775808 := by rw [hq]; exact Nat.lt_of_le_of_lt (Nat.pow_le_pow_right (by omega) (show j ≤ 62 by omega)) (by decide)
  refine Run.region ?_
  refine Run.p (.int .i64 (((f : Nat) : Int))) rfl rfl ?_
  refine Run.p (.int .i64 (findI (fun i => decide (ix ms i = x)) ms.length)) rfl rfl ?_
  refine Run.y (.int .i64 (((q : Nat) : Int))) rfl (OpY.shlOne rfl rfl hj (by omega) hq) ?_
  refine Run.y (.int .i64 (((f ||| q : Nat) : Int))) rfl (OpY.orNat rfl rfl rfl rfl (by omega) (by omega)) ?_
  refine Run.p (.int .i64 (((f ||| q : Nat) : Int))) rfl rfl ?_
  refine Run.dsr ?_
  refine Run.p (.int .i64 (((f ||| q : Nat) : Int))) rfl rfl ?_
  refine Run.p (.int .i64 (((f ||| q : Nat) : Int))) rfl rfl ?_
  refine Run.done ?_
  refine Run.ret ?_
  refine ⟨.int .i64 (((f ||| q : Nat) : Int)), [], Out.one rfl rfl, (Some'.weak (.nil _)), ?_⟩
  show _ = _; rw [hap]
 ·have p12 := h12; try simp only [bs] at p12
  have hap : apx f ms x = f := if_neg (by omega)
  refine Run.skip ?_
  refine Run.sr ?_
  refine Run.p (.int .i64 (((f : Nat) : Int))) rfl rfl ?_
  refine Run.p (.int .i64 (((f : Nat) : Int))) rfl rfl ?_
  refine Run.done ?_
  refine Run.ret ?_
  refine ⟨.int .i64 (((f : Nat) : Int)), [], Out.one rfl rfl, (Some'.weak (.nil _)), ?_⟩
  show _ = _; rw [hap]

end Go.Proofs.Yteehfidjofcfmaa
/- Walks: the key of a linear map. -/
set_option linter.unusedSimpArgs false
set_option linter.unusedVariables false
namespace Go.Proofs.Yteehfidjofcfmaa
open Go Go.RowKit
namespace KeyT
theorem Tagg_108 : aggOf Try.prog 108 = some 6 := by kernel_rfl
theorem Tarr_106 : arrayOf Try.prog 106 = some (5, 1) := by kernel_rfl
theorem Tfo_108_0 : fieldOff Try.prog 108 0 = some 0 := by kernel_rfl
theorem Tfo_28_0 : fieldOff Try.prog 28 0 = some 0 := by kernel_rfl
theorem Tone_22 : oneOf Try.prog 22 = true := by kernel_rfl
theorem Tsize_108 : (Try.prog.info? 108).map (·.size) = some 6 := by kernel_rfl
theorem Tsl_22 : sliceOf Try.prog 22 = some (3, 1, 8, [.int .i64 0]) := by kernel_rfl
theorem Tzero_108 : zeroOf Try.prog 108 = some [.int .i64 0, .int .i64 0, .int .i64 0, .int .i64 0, .int .i64 0, .int .i64 0] := by kernel_rfl
end KeyT
open KeyT
/-- A key: five rows and what has been found. -/
def keyV (l : List Nat) (f : Int) : Value := .agg #[.int .i64 (nx l 0 : Nat), .int .i64 (nx l 1 : Nat), .int .i64 (nx l 2 : Nat), .int .i64 (nx l 3 : Nat), .int .i64 (nx l 4 : Nat), .int .i64 f]
theorem key_spl {l : List Nat} (h : l.length ≤ 5) : spl [Value.int .i64 0, .int .i64 0, .int .i64 0, .int .i64 0, .int .i64 0, .int .i64 0] 0 (ints (nl l)) = [.int .i64 (nx l 0 : Nat), .int .i64 (nx l 1 : Nat), .int .i64 (nx l 2 : Nat), .int .i64 (nx l 3 : Nat), .int .i64 (nx l 4 : Nat), .int .i64 0] := by
  match l, h with
  | [], _ => rfl
  | [_], _ => rfl
  | [_, _], _ => rfl
  | [_, _, _], _ => rfl
  | [_, _, _, _], _ => rfl
  | [_, _, _, _, _], _ => rfl

set_option maxHeartbeats 1000000 in
set_option maxRecDepth 20000 in
theorem key_spec {va : Value} {l : List Nat} {w : World} (h0 : 0 < l.length) (h5 : l.length ≤ 5) (ha : Sl w va 1 l.length (ints (nl l))) : Calls Try.prog 93 #[.agg #[va]] w (Post No w fun v _ => v = keyV l 0) := by
 have hll := nl_length l
 refine enter (n := 11) (args := [.agg #[va]]) Try.func93 rfl rfl (St.empty _ _) ?_
 refine Run.sr ?_
 refine Run.step rfl (OpStep.box (us := [va]) rfl fun b1 => ?_)
 refine Run.step rfl (OpStep.alloc (zs := [.int .i64 0, .int .i64 0, .int .i64 0, .int .i64 0, .int .i64 0, .int .i64 0]) Tzero_108 fun b2 => ?_)
 refine Run.dsr ?_
 refine Run.y (.agg #[.int .i64 0, .int .i64 0, .int .i64 0, .int .i64 0, .int .i64 0, .int .i64 0]) rfl (OpY.build (cs := [.int .i64 0, .int .i64 0, .int .i64 0, .int .i64 0, .int .i64 0, .int .i64 0]) (by kernel_rfl)) ?_
 refine Run.step rfl (OpStep.alloc (zs := [.int .i64 0, .int .i64 0, .int .i64 0, .int .i64 0, .int .i64 0, .int .i64 0]) Tzero_108 fun b3 => ?_)
 refine Run.step rfl (OpStep.storeAll (us := [.int .i64 0, .int .i64 0, .int .i64 0, .int .i64 0, .int .i64 0, .int .i64 0]) Tsize_108 rfl rfl rfl (.here _) rfl ?_)
 refine Run.done ?_
 refine Run.seq ?_
 refine Run.heldB (base := [.blk b2 108 [.int .i64 0, .int .i64 0, .int .i64 0, .int .i64 0, .int .i64 0, .int .i64 0], .blk b1 28 [va]]) (by kernel_rfl) ?_
 refine DW.take (i := 0) (v := .pointer (some ⟨b3, 0, none⟩)) rfl (by kernel_rfl) (by kernel_rfl) (by kernel_rfl) (fun _ _ _ h => h) (Some'.weak (.skip (.take (.take (.nil _))))) rfl (OpY.fieldAddr Tfo_108_0 rfl rfl) ?_
 refine DW.take (i := 1) (v := .slice (some ⟨b3, 0, none⟩) 5 5) rfl (by kernel_rfl) (by kernel_rfl) (by kernel_rfl) (fun _ _ _ h => h) (Some'.weak (.skip (.take (.take (.nil _))))) rfl (OpY.sliceArr Tarr_106 rfl (by decide)) ?_
 refine DW.take (i := 2) (v := .pointer (some ⟨b1, 0, none⟩)) rfl (by kernel_rfl) (by kernel_rfl) (by kernel_rfl) (fun _ _ _ h => h) (Some'.weak (.skip (.take (.take (.nil _))))) rfl (OpY.fieldAddr Tfo_28_0 rfl rfl) ?_
 refine DW.take (i := 3) (v := va) rfl (by kernel_rfl) (by kernel_rfl) (by kernel_rfl) (fun _ _ _ h => h) (Some'.weak (.skip (.take (.take (.nil _))))) rfl (OpY.load1 Tone_22 rfl (Cells.blk (.tail _ (List.Mem.head _)) ⟨rfl, trivial⟩)) ?_
 refine DW.step (i := 4) (by kernel_rfl) rfl rfl (OpStep.copyBlk (g := b3) (o := 0) (sn := l.length) (cnt := l.length) (cs := [.int .i64 0, .int .i64 0, .int .i64 0, .int .i64 0, .int .i64 0, .int .i64 0]) (ys := ints (nl l)) (us := ints (nl l)) Tsl_22 rfl rfl (fun w hs => hs.sl ha) (by omega) (by show min l.length 5 = l.length; omega) (by rw [Nat.mul_one]; simp [ints, List.take_of_length_le]) (by exact ints_all _) (by rw [show spl [.int .i64 0, .int .i64 0, .int .i64 0, .int .i64 0, .int .i64 0, .int .i64 0] 0 (ints (nl l)) = [.int .i64 (((nx l 0 : Nat) : Int)), .int .i64 (((nx l 1 : Nat) : Int)), .int .i64 (((nx l 2 : Nat) : Int)), .int .i64 (((nx l 3 : Nat) : Int)), .int .i64 (((nx l 4 : Nat) : Int)), .int .i64 0] from by exact key_spl h5]; exact (.here _)) (by show 0 + l.length * 1 ≤ 6; omega) ?_)
 refine ⟨(Some'.weak (.skip (.take (.take (.nil _))))), ?_⟩
 refine DW.done (by kernel_rfl) ?_
 refine Run.sr ?_
 refine Run.y (.agg #[.int .i64 (((nx l 0 : Nat) : Int)), .int .i64 (((nx l 1 : Nat) : Int)), .int .i64 (((nx l 2 : Nat) : Int)), .int .i64 (((nx l 3 : Nat) : Int)), .int .i64 (((nx l 4 : Nat) : Int)), .int .i64 0]) rfl (OpY.loadN (cs := [.int .i64 (((nx l 0 : Nat) : Int)), .int .i64 (((nx l 1 : Nat) : Int)), .int .i64 (((nx l 2 : Nat) : Int)), .int .i64 (((nx l 3 : Nat) : Int)), .int .i64 (((nx l 4 : Nat) : Int)), .int .i64 0]) Tagg_108 rfl (Cells.blk (.head _) ⟨rfl, rfl, rfl, rfl, rfl, rfl, trivial⟩)) ?_
 refine Run.step rfl (OpStep.storeAll (us := [.int .i64 (((nx l 0 : Nat) : Int)), .int .i64 (((nx l 1 : Nat) : Int)), .int .i64 (((nx l 2 : Nat) : Int)), .int .i64 (((nx l 3 : Nat) : Int)), .int .i64 (((nx l 4 : Nat) : Int)), .int .i64 0]) Tsize_108 rfl rfl rfl (.there _ (.here _)) rfl ?_)
 refine Run.done ?_
 refine Run.ret ?_
 refine ⟨.agg #[.int .i64 (((nx l 0 : Nat) : Int)), .int .i64 (((nx l 1 : Nat) : Int)), .int .i64 (((nx l 2 : Nat) : Int)), .int .i64 (((nx l 3 : Nat) : Int)), .int .i64 (((nx l 4 : Nat) : Int)), .int .i64 0], [], Out.cell1 (cs := [.int .i64 (((nx l 0 : Nat) : Int)), .int .i64 (((nx l 1 : Nat) : Int)), .int .i64 (((nx l 2 : Nat) : Int)), .int .i64 (((nx l 3 : Nat) : Int)), .int .i64 (((nx l 4 : Nat) : Int)), .int .i64 0]) rfl Tagg_108 rfl (Cells.blk (.tail _ (List.Mem.head _)) ⟨rfl, rfl, rfl, rfl, rfl, rfl, trivial⟩), (Some'.weak (.nil _)), ?_⟩
 rfl

end Go.Proofs.Yteehfidjofcfmaa
/- Maps that hold a set: to each key the value true. -/
namespace Go.Proofs.Yteehfidjofcfmaa
open Go Go.RowKit
open Go.ChangeMaps (setBlock)
open Go.WideMaps (KeyLaw)
/-- The value has the form of a key. -/
def Keyable (P : Program) (k : TypeId) (v : Value) : Prop := ∃ l, keyOf P k v = some l
/-- The entries of a set. -/
def setKv (ks : List Value) : List (Value × Value) := ks.map fun k => (k, .bool true)
/-- A map type: its key's and its element's type, and that one's zero. -/
def mapOfT (P : Program) (t : TypeId) : Option (TypeId × TypeId) := match P.underlying t with
  | some (.map k e) => some (k, e)
  | _ => none
theorem mapOfT_spec {P : Program} {t k e : TypeId} (h : mapOfT P t = some (k, e)) : P.underlying t = some (.map k e) := by
  unfold mapOfT at h
  split at h
  · rename_i hu; simp only [Option.some.injEq, Prod.mk.injEq] at h; obtain ⟨rfl, rfl⟩ := h; exact hu
  · cases h
theorem setKv_keys {es : Array MapEntry} {ks : List Value} (h : es.toList.map (fun e => (e.key, e.val)) = setKv ks) : es.toList.map (·.key) = ks ∧ ∀ e ∈ es.toList, e.val = .bool true := by
  constructor
  · have : (es.toList.map (fun e => (e.key, e.val))).map Prod.fst = (setKv ks).map Prod.fst := by rw [h]
    simpa [setKv, List.map_map, Function.comp_def] using this
  · intro e he
    have : (e.key, e.val) ∈ setKv ks := by rw [← h]; exact List.mem_map.2 ⟨e, he, rfl⟩
    simp only [setKv, List.mem_map, Prod.mk.injEq] at this
    obtain ⟨_, _, _, h3⟩ := this
    exact h3.symm
variable {E : Env} {f : Fr} {H : List Res} {d : Option Tmp} {ty : TypeId} {pos : String} {after : Array Edge} {gd : Option (Nat × Bool)} {K : Fr → List Res → Prop}
theorem St.mpAt {M : Nat → Prop} {w0 w : World} {H : List Res} {b : Nat} {kvs : List (Value × Value)} (h : St M w0 w H) (hm : Res.mp b kvs ∈ H) : ∃ es clock, w.heap[b]? = some (.map es clock) ∧ es.toList.map (fun e => (e.key, e.val)) = kvs :=
  h.holds _ hm
/-- What is asked of a set: is the key there. -/
theorem OpY.lookupSet {t : TypeId} {x y : Operand} {b : Nat} {k e : TypeId} {ks : List Value} {key : Value} {c : Bool} (ht : mapOfT E.P t = some (k, e)) (hz : zeroOf E.P e = some [.bool false]) (hK : KeyLaw E.P k) (hx : f.eval x = .map (some b)) (hy : f.eval y = key)
    (hm : Res.mp b (setKv ks) ∈ H) (hks : ∀ u ∈ ks, Keyable E.P k u) (hkey : Keyable E.P k key) (hc : c = true ↔ key ∈ ks) (hzb : (E.P.info? e).bind (·.zero) = some (.bool false)) :
    OpY E ⟨d, .lookup t x y false, ty, pos, after, gd⟩ f H (.bool c) := by
  intro w hs
  have hu := mapOfT_spec ht
  obtain ⟨es, clock, hb, he⟩ := hs.mpAt hm
  obtain ⟨hk1, hk2⟩ := setKv_keys he
  obtain ⟨l, hl⟩ := hkey
  have hes : ∀ e ∈ es.toList, ∃ l, keyOf E.P k e.key = some l := fun e he => hks _ (by rw [← hk1]; exact List.mem_map.2 ⟨e, he, rfl⟩)
  have hzv : (zeroValue e).run E.P w = .ok (.bool false) w := by
    obtain ⟨i, hi, hz2⟩ := Option.bind_eq_some_iff.1 hzb
    simp [zeroValue, typeInfo, hi, hz2]
  have key0 : (Instr.lookup t (.map (some b)) key false).run E.P w = .ok (.bool c) w := by
    rcases hK.find w hl es.toList hes with ⟨h1, h2⟩ | ⟨j, e0, h1, h2, h3⟩
    · have : c = false := by
        cases hcc : c with
        | false => rfl
        | true =>
          have h4 := hc.1 hcc
          rw [← hk1] at h4
          obtain ⟨e1, h5, h6⟩ := List.mem_map.1 h4
          exact absurd h6 (h2 e1 h5)
      subst this
      simp [Instr.lookup, run_underlying hu, MapKept.run_getObj_map hb, hK.check w _ hl, h1, hzv]
    · have h5 : e0 ∈ es.toList := List.mem_of_getElem? h2
      have : c = true := hc.2 (by rw [← hk1]; exact List.mem_map.2 ⟨e0, h5, h3⟩)
      subst this
      simp [Instr.lookup, run_underlying hu, MapKept.run_getObj_map hb, hK.check w _ hl, h1, hk2 e0 h5]
  simp [execOp, hx, hy, key0]
theorem St.putMap {M : Nat → Prop} {w0 w : World} {H : List Res} {b clock clock' : Nat} {es es' : Array MapEntry} {kvs kvs' : List (Value × Value)} (h : St M w0 w (.mp b kvs :: H)) (hb : w.heap[b]? = some (.map es clock)) (he : es'.toList.map (fun e => (e.key, e.val)) = kvs') :
    St M w0 (setBlock w b (.map es' clock')) (.mp b kvs' :: H) := by
  refine St.turn h rfl rfl rfl (by simp [setBlock]) (fun k _ hn => ?_) ?_ (fun k hk => .inl (by simpa [Res.has] using hk))
  · exact ChangeMaps.heap_setBlock_other hb _ fun e => hn (by simp [Res.has, e])
  · exact ⟨es', clock', ChangeMaps.heap_setBlock_same hb _, he⟩
/-- A new key is put into a set. -/
theorem OpStep.insertSet {t : TypeId} {x y z : Operand} {b : Nat} {k e : TypeId} {ks : List Value} {key : Value} {H' : List Res} (ht : mapOfT E.P t = some (k, e)) (hK : KeyLaw E.P k) (hx : f.eval x = .map (some b)) (hy : f.eval y = key) (hz : f.eval z = .bool true)
    (hH : Turn (.mp b (setKv ks)) (.mp b (setKv (ks ++ [key]))) H H') (hks : ∀ u ∈ ks, Keyable E.P k u) (hkey : Keyable E.P k key) (hnew : key ∉ ks) (hk : K (putF E.n f d undef) H') :
    OpStep E ⟨d, .mapUpdate t x y z, ty, pos, after, gd⟩ f H K := by
  intro a w ha hs Kw Q' hKw
  have hu := mapOfT_spec ht
  obtain ⟨H1, H2, rfl, rfl⟩ := hH.split
  have hs' := hs.perm List.perm_middle
  obtain ⟨es, clock, hb, he⟩ := hs'.mpAt (.head _)
  obtain ⟨hk1, hk2⟩ := setKv_keys he
  obtain ⟨l, hl⟩ := hkey
  have hes : ∀ e ∈ es.toList, ∃ l, keyOf E.P k e.key = some l := fun e he => hks _ (by rw [← hk1]; exact List.mem_map.2 ⟨e, he, rfl⟩)
  rcases hK.find w hl es.toList hes with ⟨h1, h2⟩ | ⟨j, e0, h1, h2, h3⟩
  · have hrun : (Instr.mapUpdate t (.map (some b)) key (.bool true)).run E.P w = .ok () (setBlock w b (.map (es.push ⟨key, .bool true, clock⟩) (clock + 1))) := by
      simp [Instr.mapUpdate, run_underlying hu, MapKept.run_getObj_map hb, hK.check w _ hl, h1, MapKept.run_setObj_map _ hb, setBlock]
    unfold Oper.wp
    rw [ha.eval]
    simp only [execOp, hx, hy, hz]
    simp [hrun, Result.andThen]
    refine hKw _ _ _ _ (ha.put _ _) ?_ hk
    exact (hs'.putMap hb (by simp [he, setKv])).perm List.perm_middle.symm
  · exact absurd (by rw [← hk1]; exact List.mem_map.2 ⟨e0, List.mem_of_getElem? h2, h3⟩) hnew
/-- The same, where a map is written out. -/
theorem OpStep.insertLit {t : TypeId} {x y z : Operand} {b : Nat} {k e : TypeId} {ks : List Value} {key : Value} {H' : List Res} (ht : mapOfT E.P t = some (k, e)) (hK : KeyLaw E.P k) (hx : f.eval x = .map (some b)) (hy : f.eval y = key) (hz : f.eval z = .bool true)
    (hH : Turn (.mp b (setKv ks)) (.mp b (setKv (ks ++ [key]))) H H') (hks : ∀ u ∈ ks, Keyable E.P k u) (hkey : Keyable E.P k key) (hnew : key ∉ ks) (hk : K (putF E.n f d undef) H') :
    OpStep E ⟨d, .insert t x y z, ty, pos, after, gd⟩ f H K := by
  intro a w ha hs Kw Q' hKw
  have hu := mapOfT_spec ht
  obtain ⟨H1, H2, rfl, rfl⟩ := hH.split
  have hs' := hs.perm List.perm_middle
  obtain ⟨es, clock, hb, he⟩ := hs'.mpAt (.head _)
  obtain ⟨hk1, hk2⟩ := setKv_keys he
  obtain ⟨l, hl⟩ := hkey
  have hes : ∀ e ∈ es.toList, ∃ l, keyOf E.P k e.key = some l := fun e he => hks _ (by rw [← hk1]; exact List.mem_map.2 ⟨e, he, rfl⟩)
  rcases hK.find w hl es.toList hes with ⟨h1, h2⟩ | ⟨j, e0, h1, h2, h3⟩
  · have hrun : (Instr.mapUpdate t (.map (some b)) key (.bool true)).run E.P w = .ok () (setBlock w b (.map (es.push ⟨key, .bool true, clock⟩) (clock + 1))) := by
      simp [Instr.mapUpdate, run_underlying hu, MapKept.run_getObj_map hb, hK.check w _ hl, h1, MapKept.run_setObj_map _ hb, setBlock]
    unfold Oper.wp
    rw [ha.eval]
    simp only [execOp, hx, hy, hz]
    simp [hrun, Result.andThen]
    refine hKw _ _ _ _ (ha.put _ _) ?_ hk
    exact (hs'.putMap hb (by simp [he, setKv])).perm List.perm_middle.symm
  · exact absurd (by rw [← hk1]; exact List.mem_map.2 ⟨e0, List.mem_of_getElem? h2, h3⟩) hnew
/-- A new map. -/
theorem OpStep.makeMap {t : TypeId} (hk : ∀ b, K (putF E.n f d (.map (some b))) (.mp b (setKv []) :: H)) : OpStep E ⟨d, .makeMap t none, ty, pos, after, gd⟩ f H K := by
  refine OpStep.of_value (v := fun w => .map (some w.heap.size)) (w' := fun w => w.alloc (.map #[] 0)) (H' := fun w => .mp w.heap.size (setKv []) :: H) fun w hs => ⟨?_, ?_, hk _⟩
  · simp [execOp, Instr.makeMap]
  · refine St.call (H' := [.mp w.heap.size (setKv [])]) hs ⟨rfl, rfl, rfl, by simp, fun k hk _ => Below.heap_alloc w _ k hk, ?_, ?_, by simp⟩
    · intro r hr
      simp only [List.mem_singleton] at hr; subst hr
      exact ⟨#[], 0, heap_alloc_new w _, rfl⟩
    · intro r hr k hk hl
      simp only [List.mem_singleton] at hr; subst hr
      simp only [Res.has] at hk
      omega
end Go.Proofs.Yteehfidjofcfmaa
/- The key's type, as a key of sets. -/
set_option linter.unusedSimpArgs false
set_option linter.unusedVariables false
namespace Go.Proofs.Yteehfidjofcfmaa
open Go Go.RowKit
theorem kl_wide : (match Try.prog.underlying 108 with | some (.array _ _) | some (.struct _) => true | _ => false) = true := by kernel_rfl
theorem kl_type : Try.prog.keyTypeAt 3 108 = true := by kernel_rfl
theorem kl_row : (108 : TypeId) < Try.prog.types.size := of_decide_eq_true (by kernel_rfl)
set_option maxRecDepth 100000 in
theorem kl_laid : laidOutB Try.prog = true := by kernel_rfl
set_option maxRecDepth 100000 in
theorem kl_law : WideMaps.KeyLaw Try.prog 108 := deep_law_laid kl_laid (m := 3) (by omega) kl_row kl_type kl_wide
theorem kl_kt : Try.prog.keyType 108 = true := by kernel_rfl
theorem kl_c1 : Try.prog.cellsOf 3 = 1 := by kernel_rfl
theorem kl_c5 : Try.prog.cellsOf 106 = 5 := by kernel_rfl
theorem kl_c6 : Try.prog.cellsOf 108 = 6 := by kernel_rfl
theorem kl_can {a b c d e f : Int} (ha : (Lit.int .i64 a).wf = true) (hb : (Lit.int .i64 b).wf = true) (hc : (Lit.int .i64 c).wf = true) (hd : (Lit.int .i64 d).wf = true) (he : (Lit.int .i64 e).wf = true) (hf : (Lit.int .i64 f).wf = true) : Keyable Try.prog 108 (.agg #[.int .i64 a, .int .i64 b, .int .i64 c, .int .i64 d, .int .i64 e, .int .i64 f]) := by
  obtain ⟨z, hz⟩ : ∃ z, Try.prog.types.size + 1 = z + 3 := ⟨Try.prog.types.size - 2, by have h : (108 : Nat) < Try.prog.types.size := kl_row; omega⟩
  refine Option.isSome_iff_exists.1 ?_
  unfold keyOf
  rw [Try.underlying108, hz]
  simp [Program.keyLits, Try.underlying108, Try.underlying106, Try.underlying3, kl_kt, kl_c1, kl_c5, kl_c6, Value.formed, Value.cells, List.range_succ, ha, hb, hc, hd, he, hf]

end Go.Proofs.Yteehfidjofcfmaa
/- Plain laws: searches in breadth. -/
set_option linter.unusedSimpArgs false
set_option linter.unusedVariables false
namespace Go.Proofs.Yteehfidjofcfmaa
open Go Go.RowKit
/-- Lists of one length, by the first place at which they differ. -/
def lexlt : List Nat → List Nat → Prop
  | a :: u, b :: v => a < b ∨ a = b ∧ lexlt u v
  | _, _ => False
def slt (u v : List Nat) : Prop := u.length < v.length ∨ u.length = v.length ∧ lexlt u v
def sle (u v : List Nat) : Prop := slt u v ∨ u = v
theorem lexlt_irrefl : ∀ u, ¬ lexlt u u
  | [] => fun h => h
  | a :: u => fun h => h.elim (fun h => Nat.lt_irrefl _ h) fun h => lexlt_irrefl u h.2
theorem lexlt_trans : ∀ {u v w}, lexlt u v → lexlt v w → lexlt u w
  | a :: u, b :: v, c :: w, h, h' => by
    rcases h with h | ⟨rfl, h⟩ <;> rcases h' with h' | ⟨rfl, h'⟩
    · exact .inl (by omega)
    · exact .inl h
    · exact .inl h'
    · exact .inr ⟨rfl, lexlt_trans h h'⟩
  | [], _, _, h, _ => h.elim
  | _ :: _, [], _, h, _ => h.elim
  | _ :: _, _ :: _, [], _, h => h.elim
theorem lexlt_append : ∀ {u v : List Nat} (x y : List Nat), lexlt u v → lexlt (u ++ x) (v ++ y)
  | a :: u, b :: v, x, y, h => h.elim .inl fun h => .inr ⟨h.1, lexlt_append x y h.2⟩
  | [], _, _, _, h => h.elim
  | _ :: _, [], _, _, h => h.elim
theorem lexlt_left : ∀ (u : List Nat) {x y : List Nat}, lexlt x y → lexlt (u ++ x) (u ++ y)
  | [], _, _, h => h
  | _ :: u, _, _, h => .inr ⟨rfl, lexlt_left u h⟩
theorem slt_irrefl (u : List Nat) : ¬ slt u u := fun h => h.elim (Nat.lt_irrefl _) fun h => lexlt_irrefl u h.2
theorem slt_trans {u v w : List Nat} (h : slt u v) (h' : slt v w) : slt u w := by
  rcases h with h | ⟨h1, h2⟩ <;> rcases h' with h' | ⟨h3, h4⟩
  · exact .inl (by omega)
  · exact .inl (by omega)
  · exact .inl (by omega)
  · exact .inr ⟨by omega, lexlt_trans h2 h4⟩
theorem sle_refl (u : List Nat) : sle u u := .inr rfl
theorem sle_trans {u v w : List Nat} (h : sle u v) (h' : sle v w) : sle u w := by
  rcases h with h | rfl
  · rcases h' with h' | rfl
    · exact .inl (slt_trans h h')
    · exact .inl h
  · exact h'
theorem sle_antisymm {u v : List Nat} (h : sle u v) (h' : sle v u) : u = v := by
  rcases h with h | rfl
  · rcases h' with h' | rfl
    · exact absurd (slt_trans h h') (slt_irrefl u)
    · rfl
  · rfl
theorem sle_len {u v : List Nat} (h : sle u v) : u.length ≤ v.length := by
  rcases h with (h | h) | rfl <;> omega
theorem slt_snoc {u v : List Nat} (a b : Nat) (h : slt u v) : slt (u ++ [a]) (v ++ [b]) := by
  rcases h with h | ⟨h1, h2⟩
  · exact .inl (by simp; exact h)
  · exact .inr ⟨by simp [h1], lexlt_append _ _ h2⟩
theorem slt_last (u : List Nat) {a b : Nat} (h : a < b) : slt (u ++ [a]) (u ++ [b]) := .inr ⟨by simp, lexlt_left u (.inl h)⟩
theorem sle_snoc {u v : List Nat} (a : Nat) (h : sle u v) : sle (u ++ [a]) (v ++ [a]) := by
  rcases h with h | rfl
  · exact .inl (slt_snoc a a h)
  · exact sle_refl _
theorem slt_cons {u v : List Nat} (a : Nat) : slt (a :: u) (a :: v) ↔ slt u v := by
  constructor
  · rintro (h | ⟨h1, h2⟩)
    · exact .inl (by simpa using h)
    · refine .inr ⟨by simpa using h1, ?_⟩
      exact h2.elim (fun h => absurd h (Nat.lt_irrefl _)) fun h => h.2
  · rintro (h | ⟨h1, h2⟩)
    · exact .inl (by simpa using h)
    · exact .inr ⟨by simpa using h1, .inr ⟨rfl, h2⟩⟩
theorem slt_head {u v : List Nat} {a b : Nat} (hl : u.length = v.length) (h : a < b) : slt (a :: u) (b :: v) := .inr ⟨by simp [hl], .inl h⟩

section
variable {K : Type} (step : K → Nat → K) (ok : Nat → Bool) (E : Nat) (s : K)
def bev (w : List Nat) : K := w.foldl step s
theorem bev_snoc (w : List Nat) (e : Nat) : bev step s (w ++ [e]) = step (bev step s w) e := by simp [bev, List.foldl_append]
/-- Words of edges. -/
def BW (w : List Nat) : Prop := ∀ e ∈ w, e < E ∧ ok e = true
/-- The queue behind the nodes before i and the edges below e of node i. -/
structure BI (i e : Nat) (q : List (K × List Nat)) : Prop where
  first : q[0]? = some (s, [])
  nd : (q.map (·.1)).Nodup
  ev : ∀ y ∈ q, bev step s y.2 = y.1
  okw : ∀ y ∈ q, BW ok E y.2
  srt : q.Pairwise fun a b => slt a.2 b.2
  form : ∀ y ∈ q, y.2 = [] ∨ ∃ (m e' : Nat) (z : K × List Nat), q[m]? = some z ∧ y.2 = z.2 ++ [e'] ∧ (m < i ∨ m = i ∧ e' < e)
  clo : ∀ (m : Nat) (z : K × List Nat), q[m]? = some z → ∀ e', e' < E → ok e' = true → (m < i ∨ m = i ∧ e' < e) → ∃ y ∈ q, y.1 = step z.1 e' ∧ sle y.2 (z.2 ++ [e'])
variable {step ok E s}
theorem BI.start : BI step ok E s 0 0 [(s, [])] :=
  ⟨rfl, by simp, by simp [bev], by simp [BW], by simp, by simp, fun m z hz e' _ _ h => by omega⟩
theorem pw_get {α : Type} {R : α → α → Prop} : ∀ {l : List α} {i j : Nat} {a b : α}, l.Pairwise R → i < j → l[i]? = some a → l[j]? = some b → R a b := by
  intro l i j a b h hij ha hb
  obtain ⟨hi, ea⟩ := List.getElem?_eq_some_iff.1 ha
  obtain ⟨hj, eb⟩ := List.getElem?_eq_some_iff.1 hb
  rw [← ea, ← eb]
  exact List.pairwise_iff_getElem.1 h i j hi hj hij
/-- Whatever is in the queue stands before a new path. -/
theorem BI.below {i e : Nat} {q : List (K × List Nat)} (h : BI step ok E s i e q) {x : K × List Nat} (hx : q[i]? = some x) : ∀ y ∈ q, slt y.2 (x.2 ++ [e]) := by
  intro y hy
  rcases h.form y hy with h1 | ⟨m, e', z, hz, h1, h2⟩
  · rw [h1]; exact .inl (by simp)
  · rw [h1]
    rcases h2 with h2 | ⟨rfl, h2⟩
    · exact slt_snoc _ _ (pw_get (R := fun a b : K × List Nat => slt a.2 b.2) h.srt h2 hz hx)
    · have : z = x := by rw [hz] at hx; exact Option.some.inj hx
      rw [this]; exact slt_last _ h2
theorem BI.next {i : Nat} {q : List (K × List Nat)} (h : BI step ok E s i E q) : BI step ok E s (i + 1) 0 q :=
  ⟨h.first, h.nd, h.ev, h.okw, h.srt, fun y hy => by
    rcases h.form y hy with h1 | ⟨m, e', z, hz, h1, h2⟩
    · exact .inl h1
    · exact .inr ⟨m, e', z, hz, h1, by omega⟩, fun m z hz e' he' hok hm => h.clo m z hz e' he' hok (by omega)⟩
end
section
variable {K : Type} [DecidableEq K] (step : K → Nat → K) (ok : Nat → Bool) (E : Nat) (s : K)
/-- One edge from the node x. -/
def bvis (x : K × List Nat) (q : List (K × List Nat)) (e : Nat) : List (K × List Nat) :=
  if ok e = true ∧ step x.1 e ∉ q.map (·.1) then q ++ [(step x.1 e, x.2 ++ [e])] else q
/-- The edges below e from the node x. -/
def brow (x : K × List Nat) (q : List (K × List Nat)) : Nat → List (K × List Nat)
  | 0 => q
  | e + 1 => bvis step ok x (brow x q e) e
/-- The queue behind the first i nodes. -/
def bfs : Nat → List (K × List Nat)
  | 0 => [(s, [])]
  | i + 1 => match (bfs i)[i]? with
    | some x => brow step ok x (bfs i) E
    | none => bfs i
variable {step ok E s}
theorem BI.vis {i e : Nat} {q : List (K × List Nat)} (h : BI step ok E s i e q) {x : K × List Nat} (hx : q[i]? = some x) (he : e < E) : BI step ok E s i (e + 1) (bvis step ok x q e) := by
  have hil : i < q.length := (List.getElem?_eq_some_iff.1 hx).1
  have hb := h.below hx
  have hxm : x ∈ q := List.mem_of_getElem? hx
  unfold bvis
  split
  · rename_i hc
    have hg : ∀ m z, q[m]? = some z → (q ++ [(step x.1 e, x.2 ++ [e])])[m]? = some z := fun m z hz => by
      rw [List.getElem?_append_left (List.getElem?_eq_some_iff.1 hz).1]; exact hz
    refine ⟨hg 0 _ h.first, ?_, fun y hy => ?_, fun y hy => ?_, ?_, fun y hy => ?_, fun m z hz e' he' hok hm => ?_⟩
    · rw [List.map_append, List.nodup_append]
      refine ⟨h.nd, by simp, fun a ha b hb' => ?_⟩
      simp only [List.map_cons, List.map_nil, List.mem_singleton] at hb'
      subst hb'
      intro e2; subst e2; exact hc.2 ha
    · rcases List.mem_append.1 hy with hy | hy
      · exact h.ev y hy
      · simp only [List.mem_singleton] at hy; subst hy
        rw [bev_snoc, h.ev x hxm]
    · rcases List.mem_append.1 hy with hy | hy
      · exact h.okw y hy
      · simp only [List.mem_singleton] at hy; subst hy
        intro e2 he2
        rcases List.mem_append.1 he2 with he2 | he2
        · exact h.okw x hxm e2 he2
        · simp only [List.mem_singleton] at he2; subst he2; exact ⟨he, hc.1⟩
    · refine List.pairwise_append.2 ⟨h.srt, by simp, fun a ha b hb' => ?_⟩
      simp only [List.mem_singleton] at hb'; subst hb'
      exact hb a ha
    · rcases List.mem_append.1 hy with hy | hy
      · rcases h.form y hy with h1 | ⟨m, e', z, hz, h1, h2⟩
        · exact .inl h1
        · exact .inr ⟨m, e', z, hg m z hz, h1, by omega⟩
      · simp only [List.mem_singleton] at hy; subst hy
        exact .inr ⟨i, e, x, hg i x hx, rfl, .inr ⟨rfl, by omega⟩⟩
    · by_cases hml : m < q.length
      · rw [List.getElem?_append_left hml] at hz
        by_cases hnew : m = i ∧ e' = e
        · obtain ⟨rfl, rfl⟩ := hnew
          have : z = x := by rw [hz] at hx; exact Option.some.inj hx
          subst this
          exact ⟨_, List.mem_append.2 (.inr (List.mem_singleton.2 rfl)), rfl, sle_refl _⟩
        · obtain ⟨y, hy, h1, h2⟩ := h.clo m z hz e' he' hok (by omega)
          exact ⟨y, List.mem_append.2 (.inl hy), h1, h2⟩
      · exfalso; omega
  · rename_i hc
    refine ⟨h.first, h.nd, h.ev, h.okw, h.srt, fun y hy => ?_, fun m z hz e' he' hok hm => ?_⟩
    · rcases h.form y hy with h1 | ⟨m, e', z, hz, h1, h2⟩
      · exact .inl h1
      · exact .inr ⟨m, e', z, hz, h1, by omega⟩
    · by_cases hnew : m = i ∧ e' = e
      · obtain ⟨rfl, rfl⟩ := hnew
        have : z = x := by rw [hz] at hx; exact Option.some.inj hx
        subst this
        have hin : step z.1 e' ∈ q.map (·.1) := Classical.byContradiction fun hn => hc ⟨hok, hn⟩
        obtain ⟨y, hy, h1⟩ := List.mem_map.1 hin
        exact ⟨y, hy, h1, .inl (hb y hy)⟩
      · exact h.clo m z hz e' he' hok (by omega)
theorem bvis_pre (x : K × List Nat) (q : List (K × List Nat)) (e : Nat) : ∃ t, bvis step ok x q e = q ++ t := by
  unfold bvis; split
  · exact ⟨_, rfl⟩
  · exact ⟨[], by simp⟩
theorem brow_pre (x : K × List Nat) (q : List (K × List Nat)) : ∀ e, ∃ t, brow step ok x q e = q ++ t
  | 0 => ⟨[], by simp [brow]⟩
  | e + 1 => by
    obtain ⟨t, ht⟩ := brow_pre x q e
    obtain ⟨u, hu⟩ := bvis_pre (step := step) (ok := ok) x (brow step ok x q e) e
    exact ⟨t ++ u, by rw [brow, hu, ht, List.append_assoc]⟩
theorem BI.row {i : Nat} {q : List (K × List Nat)} (h : BI step ok E s i 0 q) {x : K × List Nat} (hx : q[i]? = some x) : ∀ e, e ≤ E → BI step ok E s i e (brow step ok x q e)
  | 0, _ => h
  | e + 1, he => by
    have ih := h.row hx e (by omega)
    obtain ⟨t, ht⟩ := brow_pre (step := step) (ok := ok) x q e
    exact ih.vis (by rw [ht, List.getElem?_append_left (List.getElem?_eq_some_iff.1 hx).1]; exact hx) (by omega)
theorem bfs_inv : ∀ i, BI step ok E s i 0 (bfs step ok E s i)
  | 0 => BI.start
  | i + 1 => by
    have ih := bfs_inv i
    rw [bfs]
    split
    · rename_i x hx
      exact (ih.row hx E (Nat.le_refl _)).next
    · rename_i hx
      have hlen : (bfs step ok E s i).length ≤ i := List.getElem?_eq_none_iff.1 hx
      refine ⟨ih.first, ih.nd, ih.ev, ih.okw, ih.srt, fun y hy => ?_, fun m z hz e' he' hok hm => ih.clo m z hz e' he' hok ?_⟩
      · rcases ih.form y hy with h1 | ⟨m, e', z, hz, h1, h2⟩
        · exact .inl h1
        · exact .inr ⟨m, e', z, hz, h1, by omega⟩
      · have := (List.getElem?_eq_some_iff.1 hz).1; omega
theorem bfs_pre : ∀ d i, ∃ t, bfs step ok E s (i + d) = bfs step ok E s i ++ t
  | 0, i => ⟨[], by simp⟩
  | d + 1, i => by
    obtain ⟨t, ht⟩ := bfs_pre d i
    rw [← Nat.add_assoc, bfs]
    split
    · rename_i x hx
      obtain ⟨u, hu⟩ := brow_pre (step := step) (ok := ok) x (bfs step ok E s (i + d)) E
      exact ⟨t ++ u, by rw [hu, ht, List.append_assoc]⟩
    · exact ⟨t, ht⟩
theorem bfs_le {i j : Nat} (h : i ≤ j) : ∃ t, bfs step ok E s j = bfs step ok E s i ++ t := by
  obtain ⟨t, ht⟩ := bfs_pre (step := step) (ok := ok) (E := E) (s := s) (j - i) i
  rw [show i + (j - i) = j by omega] at ht
  exact ⟨t, ht⟩
/-- Nothing is left to do: every word leads to a node of the queue, whose path stands not behind the word. -/
theorem bfs_min {i : Nat} (hi : (bfs step ok E s i).length ≤ i) (w : List Nat) (hw : BW ok E w) : ∃ y ∈ bfs step ok E s i, y.1 = bev step s w ∧ sle y.2 w := by
  have key : ∀ (n : Nat) (w : List Nat), w.length = n → BW ok E w → ∃ y ∈ bfs step ok E s i, y.1 = bev step s w ∧ sle y.2 w := by
    intro n
    induction n with
    | zero =>
      intro w hl _
      have : w = [] := List.length_eq_zero_iff.1 hl
      subst this
      exact ⟨(s, []), List.mem_of_getElem? (bfs_inv i).first, rfl, sle_refl _⟩
    | succ n ih =>
      intro w hl hw
      rcases List.eq_nil_or_concat w with rfl | ⟨w', e, rfl⟩
      · simp at hl
      · rw [List.concat_eq_append] at *
        obtain ⟨z, hz, h1, h2⟩ := ih w' (by simpa using hl) fun e he => hw e (List.mem_append.2 (.inl he))
        obtain ⟨m, hm, hzm⟩ := List.getElem_of_mem hz
        have he := hw e (by simp)
        obtain ⟨y, hy, h3, h4⟩ := (bfs_inv i).clo m z (by rw [List.getElem?_eq_getElem hm, hzm]) e he.1 he.2 (.inl (by omega))
        exact ⟨y, hy, by rw [h3, h1, bev_snoc], sle_trans h4 (sle_snoc e h2)⟩
  exact key w.length w rfl hw
/-- A key has one entry. -/
theorem bfs_one {i : Nat} {y z : K × List Nat} (hy : y ∈ bfs step ok E s i) (hz : z ∈ bfs step ok E s i) (h : y.1 = z.1) : y = z := by
  obtain ⟨a, ha, rfl⟩ := List.getElem_of_mem hy
  obtain ⟨b, hb, rfl⟩ := List.getElem_of_mem hz
  have hn := (bfs_inv (step := step) (ok := ok) (E := E) (s := s) i).nd
  rcases Nat.lt_trichotomy a b with h1 | rfl | h1
  · exact absurd (by rw [List.getElem_map, List.getElem_map]; exact h) (List.pairwise_iff_getElem.1 hn a b (by simpa using ha) (by simpa using hb) h1)
  · rfl
  · exact absurd (by rw [List.getElem_map, List.getElem_map]; exact h.symm) (List.pairwise_iff_getElem.1 hn b a (by simpa using hb) (by simpa using ha) h1)
theorem bfs_keys {p : K → Prop} (hp : ∀ k e, p k → e < E → ok e = true → p (step k e)) (h0 : p s) (i : Nat) : ∀ y ∈ bfs step ok E s i, p y.1 := by
  intro y hy
  have h1 := (bfs_inv (step := step) (ok := ok) (E := E) (s := s) i).ev y hy
  have h2 := (bfs_inv (step := step) (ok := ok) (E := E) (s := s) i).okw y hy
  rw [← h1]
  have key : ∀ (w : List Nat) (k : K), p k → BW ok E w → p (w.foldl step k) := by
    intro w
    induction w with
    | nil => intro k hk _; exact hk
    | cons e w ih =>
      intro k hk hw
      have he := hw e (by simp)
      exact ih _ (hp k e hk he.1 he.2) fun e' he' => hw e' (by simp [he'])
  exact key _ _ h0 h2
end
/-- Different numbers below M are at most M. -/
theorem nodup_le : ∀ {M : Nat} {l : List Nat}, l.Nodup → (∀ x ∈ l, x < M) → l.length ≤ M
  | 0, l, _, h => by
    cases l with
    | nil => simp
    | cons x l => have := h x (by simp); omega
  | M + 1, l, hn, h => by
    by_cases hm : M ∈ l
    · have h1 := nodup_le (M := M) (hn.erase M) fun x hx => by
        have h2 := h x (List.mem_of_mem_erase hx)
        have h3 : x ≠ M := fun e => by subst e; exact (List.Nodup.not_mem_erase hn) hx
        omega
      rw [List.length_erase_of_mem hm] at h1
      omega
    · have := nodup_le (M := M) hn fun x hx => by
        have h2 := h x hx
        have h3 : x ≠ M := fun e => by subst e; exact hm hx
        omega
      omega
/-- The queue stays small: its keys have different codes. -/
theorem bfs_small {K : Type} [DecidableEq K] {step : K → Nat → K} {ok : Nat → Bool} {E : Nat} {s : K} {p : K → Prop} {code : K → Nat} {M : Nat} (hp : ∀ k e, p k → e < E → ok e = true → p (step k e)) (h0 : p s)
    (hc : ∀ k, p k → code k < M) (hinj : ∀ k k', p k → p k' → code k = code k' → k = k') (i : Nat) : (bfs step ok E s i).length ≤ M := by
  have hk := bfs_keys (step := step) (ok := ok) (E := E) (s := s) hp h0 i
  have hn := (bfs_inv (step := step) (ok := ok) (E := E) (s := s) i).nd
  have h1 : ((bfs step ok E s i).map fun y => code y.1).Nodup := by
    rw [show (bfs step ok E s i).map (fun y => code y.1) = ((bfs step ok E s i).map (·.1)).map code by simp [Function.comp_def]]
    refine List.pairwise_map.2 (hn.imp_of_mem fun {a b} ha hb hne e => hne ?_)
    obtain ⟨y, hy, rfl⟩ := List.mem_map.1 ha
    obtain ⟨z, hz, rfl⟩ := List.mem_map.1 hb
    exact hinj _ _ (hk y hy) (hk z hz) e
  have := nodup_le h1 fun x hx => by
    obtain ⟨y, hy, rfl⟩ := List.mem_map.1 hx
    exact hc _ (hk y hy)
  simpa using this

end Go.Proofs.Yteehfidjofcfmaa
/- Plain laws: the search for linear maps as a search in breadth. -/
set_option linter.unusedSimpArgs false
set_option linter.unusedVariables false
namespace Go.Proofs.Yteehfidjofcfmaa
open Go Go.RowKit
def gat (gs : List (Nat × Nat)) (k : Nat) : Nat × Nat := gs.getD k (0, 0)
/-- One controlled NOT, by its number; what appears is noted. -/
def lstep (n : Nat) (ms : List Int) (k : List Nat × Nat) (e : Nat) : List Nat × Nat := (cx k.1 (e / n, e % n), apx k.2 ms (nx (cx k.1 (e / n, e % n)) (e % n)))
def lok (n e : Nat) : Bool := decide (e / n ≠ e % n)
/-- The number of the k-th controlled NOT. -/
def eK (n k : Nat) : Nat := if k < (cnP n n).length then (gat (cnP n n) k).1 * n + (gat (cnP n n) k).2 else n * n
theorem eK_first : ∀ n, n < 6 → ∀ e, e < eK n 0 → lok n e = false := by decide +kernel
theorem eK_gap : ∀ n, n < 6 → ∀ k, k < (cnP n n).length → ∀ e, e < eK n (k + 1) → eK n k < e → lok n e = false := by decide +kernel
theorem eK_at : ∀ n, n < 6 → ∀ k, k < (cnP n n).length → lok n (eK n k) = true ∧ eK n k / n = (gat (cnP n n) k).1 ∧ eK n k % n = (gat (cnP n n) k).2 ∧ eK n k < n * n ∧ eK n k < eK n (k + 1) := by decide +kernel
theorem eK_in : ∀ n, n < 6 → ∀ k, k < (cnP n n).length → (gat (cnP n n) k).1 < n ∧ (gat (cnP n n) k).2 < n ∧ (gat (cnP n n) k).1 ≠ (gat (cnP n n) k).2 := by decide +kernel
theorem eK_end (n : Nat) : eK n (cnP n n).length = n * n := if_neg (Nat.lt_irrefl _)
section
variable {K : Type} [DecidableEq K] {step : K → Nat → K} {ok : Nat → Bool}
theorem brow_skip {x : K × List Nat} {q : List (K × List Nat)} {a : Nat} : ∀ {d : Nat}, (∀ e, a ≤ e → e < a + d → ok e = false) → brow step ok x q (a + d) = brow step ok x q a
  | 0, _ => rfl
  | d + 1, h => by
    rw [← Nat.add_assoc, brow, bvis, if_neg, brow_skip (d := d) fun e h1 h2 => h e h1 (by omega)]
    rw [h (a + d) (by omega) (by omega)]; simp
end
variable {K : Type} [DecidableEq K] {step : K → Nat → K}
theorem row_first {n : Nat} (hn : n < 6) (x : K × List Nat) (q : List (K × List Nat)) : brow step (lok n) x q (eK n 0) = q := by
  have := brow_skip (step := step) (ok := lok n) (x := x) (q := q) (a := 0) (d := eK n 0) fun e _ h => eK_first n hn e (by omega)
  rw [Nat.zero_add] at this
  rw [this]; rfl
theorem row_next {n : Nat} (hn : n < 6) {k : Nat} (hk : k < (cnP n n).length) (x : K × List Nat) (q : List (K × List Nat)) : brow step (lok n) x q (eK n (k + 1)) = bvis step (lok n) x (brow step (lok n) x q (eK n k)) (eK n k) := by
  have h1 := (eK_at n hn k hk).2.2.2.2
  obtain ⟨d, hd⟩ : ∃ d, eK n (k + 1) = (eK n k + 1) + d := ⟨eK n (k + 1) - (eK n k + 1), by omega⟩
  rw [hd, brow_skip fun e h2 h3 => eK_gap n hn k hk e (by omega) (by omega), brow]
theorem row_end {n : Nat} (x : K × List Nat) (q : List (K × List Nat)) : brow step (lok n) x q (eK n (cnP n n).length) = brow step (lok n) x q (n * n) := by rw [eK_end]

end Go.Proofs.Yteehfidjofcfmaa
/- Plain laws: keys tell maps apart. -/
set_option linter.unusedSimpArgs false
set_option linter.unusedVariables false
namespace Go.Proofs.Yteehfidjofcfmaa
open Go Go.RowKit
theorem keyV_inj {l l' : List Nat} {f f' : Int} (hl : l.length = l'.length) (h5 : l.length ≤ 5) (h : keyV l f = keyV l' f') : l = l' ∧ f = f' := by
  simp only [keyV, Value.agg.injEq, Array.mk.injEq, List.cons.injEq, Value.int.injEq, true_and, and_true] at h
  obtain ⟨h0, h1, h2, h3, h4, h6⟩ := h
  refine ⟨List.ext_getElem hl fun i hi hi' => ?_, h6⟩
  have e : ∀ i (hi : i < l.length) (hi' : i < l'.length), nx l i = nx l' i → l[i] = l'[i] := fun i hi hi' h => by simpa [nx, List.getD, hi, hi'] using h
  refine e i hi hi' ?_
  rcases (by omega : i = 0 ∨ i = 1 ∨ i = 2 ∨ i = 3 ∨ i = 4) with rfl | rfl | rfl | rfl | rfl <;> omega
theorem wf_nat {x : Nat} (h : x < 9223372036854775808) : (Lit.int .i64 (x : Int)).wf = true := by
  show (decide (-9223372036854775808 ≤ (x : Int)) && decide ((x : Int) ≤ 9223372036854775807)) = true
  rw [Bool.and_eq_true, decide_eq_true_eq, decide_eq_true_eq]; omega
theorem keyV_can {l : List Nat} {f : Nat} (hl : ∀ i, nx l i < 9223372036854775808) (hf : f < 9223372036854775808) : Keyable Try.prog 108 (keyV l f) :=
  kl_can (wf_nat (hl 0)) (wf_nat (hl 1)) (wf_nat (hl 2)) (wf_nat (hl 3)) (wf_nat (hl 4)) (wf_nat hf)
/-- A key's six numbers. -/
def kc (l : List Nat) (f : Nat) : List Int := [(nx l 0 : Nat), (nx l 1 : Nat), (nx l 2 : Nat), (nx l 3 : Nat), (nx l 4 : Nat), (f : Nat)]
theorem ix_kc {l : List Nat} {f b : Nat} (hb : b < 5) : ix (kc l f) b = (nx l b : Nat) := by
  rcases (by omega : b = 0 ∨ b = 1 ∨ b = 2 ∨ b = 3 ∨ b = 4) with rfl | rfl | rfl | rfl | rfl <;> rfl
theorem kc_found (l : List Nat) (f y : Nat) : (kc l f).set 5 (y : Int) = kc l y := rfl
theorem nx_setK {l : List Nat} {b x i : Nat} (hb : b < l.length) : nx (l.set b x) i = if b = i then x else nx l i := by
  unfold nx
  simp only [List.getD, List.getElem?_set]
  split
  · rename_i e; subst e; simp [hb]
  · rfl
theorem kc_set {l : List Nat} {f b x : Nat} (hb : b < l.length) (h5 : l.length ≤ 5) : (kc l f).set b (x : Int) = kc (l.set b x) f := by
  rcases (by omega : b = 0 ∨ b = 1 ∨ b = 2 ∨ b = 3 ∨ b = 4) with rfl | rfl | rfl | rfl | rfl <;> simp [kc, nx_setK hb]

end Go.Proofs.Yteehfidjofcfmaa
/- Keys compared; copies of lists of gates. -/
set_option linter.unusedSimpArgs false
set_option linter.unusedVariables false
namespace Go.Proofs.Yteehfidjofcfmaa
open Go Go.RowKit
namespace KeqT
theorem Tsl_36 : sliceOf Try.prog 36 = some (71, 3, 24, [.int .i64 0, .int .i64 0, .int .i64 0]) := by kernel_rfl
end KeqT
open KeqT
theorem OpY.eqKey {E : Env} {f : Fr} {H : List Res} {d : Option Tmp} {ty : TypeId} {pos : String} {after : Array Edge} {gd : Option (Nat × Bool)} {t t' : TypeId} {x y : Operand} {us vs : Array Value} {b : Bool} {m : Nat} (hm : m ≤ 10000) (hk : E.P.keyTypeAt m t = true)
    (hwide : (match E.P.underlying t with | some (.array _ _) | some (.struct _) => true | _ => false) = true) (hg : E.P.eqGuardType E.P.depth t = false) (hinj : WideMaps.KeyLaw E.P t) (hx : f.eval x = .agg us) (hy : f.eval y = .agg vs) (hu : Keyable E.P t (.agg us)) (hv : Keyable E.P t (.agg vs)) (hb : b = true ↔ Value.agg us = .agg vs) :
    OpY E ⟨d, .binOp .eql t x y t', ty, pos, after, gd⟩ f H (.bool b) := by
  intro w _
  obtain ⟨lu, hlu⟩ := hu
  obtain ⟨lv, hlv⟩ := hv
  obtain ⟨r, hr, hiff⟩ := run_equal_deep (P := E.P) w hm hk hwide hlu hlv
  have hrb : r = b := by
    have h1 : lu = lv ↔ Value.agg us = .agg vs := by
      constructor
      · intro e; subst e; exact hinj.inj hlu hlv
      · intro e; rw [e] at hlu; exact Option.some.inj (hlu.symm.trans hlv)
    cases r <;> cases b <;> simp_all
  subst hrb
  simp only [execOp, hx, hy, eqGuard, binOp]
  simp [hr, hg]
theorem kl_guard : Try.prog.eqGuardType Try.prog.depth 108 = false := by kernel_rfl
theorem keyV_iff {l l' : List Nat} {f f' : Nat} {b : Bool} (hl : l.length = l'.length) (h5 : l.length ≤ 5) (hb : b = decide ((l, f) = (l', f'))) : b = true ↔ keyV l f = keyV l' f' := by
  subst hb
  rw [decide_eq_true_eq]
  constructor
  · intro e; cases e; rfl
  · intro e
    obtain ⟨h1, h2⟩ := keyV_inj hl h5 e
    rw [h1, Int.ofNat_inj.1 h2]

set_option maxHeartbeats 1000000 in
set_option maxRecDepth 20000 in
theorem CloneGate_nil {n c : Nat} {xs : List Int} {w : World} (hb : n ≤ 1048576) (ha : Sl w (.slice none n c) 3 n (ints xs)) : Calls Try.prog 96 #[.slice none n c] w (Post No w fun v H => H = [.own v 71 3 n (ints xs)]) := by
 have hxl := ha.len
 obtain rfl : n = 0 := by
  rcases Nat.eq_zero_or_pos n with h | h
  ·exact h
  ·obtain ⟨b, o, hbo⟩ := ha.opn h; cases hbo
 obtain rfl : xs = [] := by simpa [ints] using hxl
 refine enter (n := 8) (args := [.slice none 0 c]) Try.func96 rfl rfl (St.empty _ _) ?_
 refine Run.sr ?_
 refine Run.p (.slice none 0 0) rfl rfl ?_
 refine Run.done ?_
 refine Run.seq ?_
 refine Run.sr ?_
 refine Run.p (.slice none 0 c) rfl rfl ?_
 refine Run.y (.bool true) rfl (OpY.eqNilNil Tsl_36 rfl rfl) ?_
 refine Run.done ?_
 refine Run.cond (b := true) rfl (fun _ => ?_) (fun h => nomatch h)
 refine Run.seq ?_
 refine Run.weak (H' := [.own (.slice none 0 0) 71 3 0 ([])]) (Weak.nilOwn _ _) ?_ ⟨_, _, rfl, fun _ => nofun, fun _ => nofun⟩
 refine Run.region ?_
 refine Run.p (.slice none 0 0) rfl rfl ?_
 refine Run.done ?_
 refine Run.ret ?_
 refine ⟨.slice none 0 0, [.own (.slice none 0 0) 71 3 0 ([])], Out.one rfl rfl, (Some'.weak (.take (.nil _))), ?_⟩
 rfl

set_option maxHeartbeats 1000000 in
set_option maxRecDepth 20000 in
theorem CloneGate_some {a : Addr} {n c : Nat} {xs : List Int} {w : World} (hb : n ≤ 1048576) (ha : Sl w (.slice (some a) n c) 3 n (ints xs)) : Calls Try.prog 96 #[.slice (some a) n c] w (Post No w fun v H => H = [.own v 71 3 n (ints xs)]) := by
 have hxl := ha.len
 refine enter (n := 8) (args := [.slice (some a) n c]) Try.func96 rfl rfl (St.empty _ _) ?_
 refine Run.sr ?_
 refine Run.p (.slice none 0 0) rfl rfl ?_
 refine Run.done ?_
 refine Run.seq ?_
 refine Run.sr ?_
 refine Run.p (.slice (some a) n c) rfl rfl ?_
 refine Run.y (.bool false) rfl (OpY.eqNilSome Tsl_36 rfl rfl) ?_
 refine Run.done ?_
 refine Run.cond (b := false) rfl (fun h => nomatch h) (fun _ => ?_)
 refine Run.skip ?_
 refine Run.sr ?_
 refine Run.step rfl (OpStep.buildSlice (us := []) Tsl_36 (by decide) (by decide) rfl rfl fun b1 => ?_)
 refine Run.p (.slice (some a) n c) rfl rfl ?_
 refine Run.step rfl (OpStep.append (H1 := []) (H2 := []) (v := .slice (some ⟨b1, 0, none⟩) 0 0) (u := .slice (some a) n c) (n := 0) (m := n) (xs := []) (ys := ints xs) Tsl_36 (by decide) rfl rfl rfl rfl (fun w hs => hs.sl ha) (by exact ints_all xs) (by omega) (by simp only [maxLen]; omega) fun av1 hnav1 => ?_)
 refine Run.weak (H' := [.own av1 71 3 n (ints xs)]) (Some'.weak (.takeEq (by simp) (.nil _))) ?_ ⟨_, _, rfl, fun _ => nofun, fun _ => nofun⟩
 refine Run.p (av1) rfl rfl ?_
 refine Run.done ?_
 refine Run.ret ?_
 refine ⟨av1, [.own av1 71 3 n (ints xs)], Out.one rfl rfl, (Some'.weak (.take (.nil _))), ?_⟩
 rfl


theorem CloneGate_spec {va : Value} {n : Nat} {xs : List Int} {w : World} (hb : n ≤ 1048576) (ha : Sl w va 3 n (ints xs)) : Calls Try.prog 96 #[va] w (Post No w fun v H => H = [.own v 71 3 n (ints xs)]) := by
  obtain ⟨A, c, rfl, _, _⟩ := ha.form0
  cases A with
  | none => exact CloneGate_nil hb ha
  | some a => exact CloneGate_some hb ha

end Go.Proofs.Yteehfidjofcfmaa
/- Plain laws: every map of full rank is found. -/
set_option linter.unusedSimpArgs false
set_option linter.unusedVariables false
namespace Go.Proofs.Yteehfidjofcfmaa
open Go Go.RowKit
theorem apx_nil (f : Nat) (x : Int) : apx f [] x = f := by simp [apx, findI]
theorem lstep_nil (n : Nat) (k : List Nat × Nat) (e : Nat) : lstep n [] k e = (cx k.1 (e / n, e % n), k.2) := by rw [lstep, apx_nil]
theorem bev_lstep (n : Nat) : ∀ (w : List Nat) (k : List Nat × Nat), bev (lstep n []) k w = (cxs k.1 (w.map fun e => (e / n, e % n)), k.2)
  | [], k => rfl
  | e :: w, k => by
    have := bev_lstep n w (lstep n [] k e)
    simp only [bev, List.foldl_cons] at this ⊢
    rw [this, lstep_nil]
    rfl
/-- A word of controlled NOTs, by numbers. -/
theorem word_of {n : Nat} : ∀ {w : List (Nat × Nat)}, WOk n w → ∃ v : List Nat, BW (lok n) (n * n) v ∧ v.length = w.length ∧ (v.map fun e => (e / n, e % n)) = w
  | [], _ => ⟨[], fun e he => (by cases he), rfl, rfl⟩
  | (a, b) :: w, h => by
    obtain ⟨v, h1, h2, h3⟩ := word_of (n := n) (w := w) fun e he => h e (by simp [he])
    obtain ⟨ha, hb, hne⟩ := h (a, b) (by simp)
    simp only at ha hb hne
    have hd : (a * n + b) / n = a := by rw [Nat.mul_comm, Nat.mul_add_div (by omega), Nat.div_eq_of_lt hb]; omega
    have hm : (a * n + b) % n = b := by rw [Nat.mul_comm, Nat.mul_add_mod, Nat.mod_eq_of_lt hb]
    refine ⟨(a * n + b) :: v, ?_, by simp [h2], by simp [hd, hm, h3]⟩
    intro e he
    rcases List.mem_cons.1 he with rfl | he
    · refine ⟨?_, ?_⟩
      · have : (a + 1) * n ≤ n * n := Nat.mul_le_mul_right n ha
        rw [Nat.add_mul] at this; omega
      · rw [lok, hd, hm, decide_eq_true_iff]; exact hne
    · exact h1 e he
theorem reach_word {n k : Nat} {l : List Nat} (h : Reach n k (idL n) l) : ∃ v, BW (lok n) (n * n) v ∧ v.length ≤ k ∧ bev (lstep n []) (idL n, 0) v = (l, 0) := by
  obtain ⟨w, h1, h2, h3⟩ := h
  obtain ⟨v, h4, h5, h6⟩ := word_of h1
  exact ⟨v, h4, by omega, by rw [bev_lstep, h6]; simp only; rw [h3]⟩

end Go.Proofs.Yteehfidjofcfmaa
/- Plain laws: codes tell maps apart. -/
set_option linter.unusedSimpArgs false
set_option linter.unusedVariables false
namespace Go.Proofs.Yteehfidjofcfmaa
open Go Go.RowKit
theorem cdN_succ {l : List Nat} (h : ∀ i, nx l i < 16) (k : Nat) : cdN l (k + 1) = cdN l k * 16 + nx l k := by
  have := Nat.two_pow_add_eq_or_of_lt (i := 4) (h k) (cdN l k)
  rw [cdN, Nat.mul_comm (cdN l k) 16]
  exact this.symm
theorem cdN_inj {l l' : List Nat} (h : ∀ i, nx l i < 16) (h' : ∀ i, nx l' i < 16) : ∀ k, cdN l k = cdN l' k → ∀ i, i < k → nx l i = nx l' i
  | 0, _, i, hi => by omega
  | k + 1, e, i, hi => by
    rw [cdN_succ h, cdN_succ h'] at e
    have h1 := h k
    have h2 := h' k
    by_cases hk : i = k
    · subst hk; omega
    · exact cdN_inj h h' k (by omega) i (by omega)
theorem code_inj {l l' : List Nat} (hl : l.length = l'.length) (h : ∀ i, nx l i < 16) (h' : ∀ i, nx l' i < 16) (e : cdN l l.length = cdN l' l'.length) : l = l' := by
  rw [← hl] at e
  have key := cdN_inj h h' l.length e
  refine List.ext_getElem hl fun i hi hi' => ?_
  simpa [nx, List.getD, hi, hi'] using key i hi

end Go.Proofs.Yteehfidjofcfmaa
/- Plain laws: what remains of a map behind a first controlled NOT; least words. -/
set_option linter.unusedSimpArgs false
set_option linter.unusedVariables false
namespace Go.Proofs.Yteehfidjofcfmaa
open Go Go.RowKit
def aftF (a b y : Nat) : Nat := if y.testBit b then y ^^^ 2 ^ a else y
/-- What remains of a map that starts with a controlled NOT. -/
def aft (l : List Nat) (a b : Nat) : List Nat := l.map (aftF a b)
@[simp] theorem aft_length (l : List Nat) (a b : Nat) : (aft l a b).length = l.length := by simp [aft]
theorem aftF_zero (a b : Nat) : aftF a b 0 = 0 := by simp [aftF]
theorem nx_aft (l : List Nat) (a b i : Nat) : nx (aft l a b) i = aftF a b (nx l i) := by
  simp only [nx, aft, List.getD, List.getElem?_map]
  cases l[i]? with
  | none => simp [aftF_zero]
  | some x => rfl
theorem testBit_aftF (a b y j : Nat) : (aftF a b y).testBit j = (y.testBit j ^^ (y.testBit b && decide (a = j))) := by
  unfold aftF
  split
  · rename_i h; rw [Nat.testBit_xor, Nat.testBit_two_pow, h, Bool.true_and]
  · rename_i h; simp [h]
theorem aftF_xor (a b x y : Nat) : aftF a b (x ^^^ y) = aftF a b x ^^^ aftF a b y := by
  refine Nat.eq_of_testBit_eq fun j => ?_
  rw [testBit_aftF, Nat.testBit_xor, Nat.testBit_xor, Nat.testBit_xor, testBit_aftF, testBit_aftF]
  cases x.testBit j <;> cases y.testBit j <;> cases x.testBit b <;> cases y.testBit b <;> cases decide (a = j) <;> rfl
theorem aftF_aftF {a b : Nat} (h : a ≠ b) (y : Nat) : aftF a b (aftF a b y) = y := by
  refine Nat.eq_of_testBit_eq fun j => ?_
  rw [testBit_aftF, testBit_aftF, testBit_aftF, decide_eq_false h]
  cases y.testBit j <;> cases y.testBit b <;> cases decide (a = j) <;> rfl
theorem aft_aft {a b : Nat} (h : a ≠ b) (l : List Nat) : aft (aft l a b) a b = l := by
  unfold aft
  rw [List.map_map]
  have : aftF a b ∘ aftF a b = id := by funext y; exact aftF_aftF h y
  rw [this, List.map_id]
theorem aft_cx {l : List Nat} {e : Nat × Nat} (a b : Nat) (h2 : e.2 < l.length) : aft (cx l e) a b = cx (aft l a b) e := by
  refine list_ext_nx (by simp [cx]) fun i hi => ?_
  have hi' : i < l.length := by simpa [cx] using hi
  rw [nx_aft, nx_cx hi', nx_cx (by simpa using hi'), nx_aft, nx_aft]
  split
  · rw [aftF_xor]
  · rfl
theorem aft_cxs (a b : Nat) {n : Nat} : ∀ (w : List (Nat × Nat)) (l : List Nat), l.length = n → WOk n w → aft (cxs l w) a b = cxs (aft l a b) w
  | [], l, _, _ => rfl
  | e :: w, l, hl, h => by
    have he := h e (by simp)
    have ih := aft_cxs a b (n := n) w (cx l e) (by simp [cx, hl]) fun e' he' => h e' (by simp [he'])
    simp only [cxs, List.foldl_cons] at ih ⊢
    rw [ih, aft_cx a b (by omega)]
theorem aft_idL {n a b : Nat} (ha : a < n) (hb : b < n) (hab : a ≠ b) : aft (idL n) a b = cx (idL n) (a, b) := by
  have hl : (idL n).length = n := by simp [idL]
  refine list_ext_nx (by simp [cx]) fun i hi => ?_
  have hi' : i < n := by simpa [hl] using hi
  rw [nx_aft, nx_cx (by rw [hl]; exact hi'), nx_idL hi', nx_idL ha]
  simp only [aftF, Nat.testBit_two_pow]
  by_cases h : i = b
  · subst h; simp
  · rw [if_neg (by simpa using h), if_neg (fun e => h e.symm)]
theorem cxs_cons_aft {n a b : Nat} (ha : a < n) (hb : b < n) (hab : a ≠ b) {w : List (Nat × Nat)} (hw : WOk n w) : cxs (idL n) ((a, b) :: w) = aft (cxs (idL n) w) a b := by
  rw [aft_cxs a b w (idL n) (by simp [idL]) hw, aft_idL ha hb hab]; rfl
/-- A word by numbers, as pairs. -/
def dcw (n : Nat) (w : List Nat) : List (Nat × Nat) := w.map fun e => (e / n, e % n)
theorem dec_ok {n : Nat} {w : List Nat} (h : BW (lok n) (n * n) w) : WOk n (dcw n w) := by
  intro x hx
  obtain ⟨e, he, rfl⟩ := List.mem_map.1 hx
  obtain ⟨h1, h2⟩ := h e he
  have hn : 0 < n := by
    rcases Nat.eq_zero_or_pos n with h0 | h0
    · subst h0; simp at h1
    · exact h0
  refine ⟨?_, ?_, ?_⟩
  · exact (Nat.div_lt_iff_lt_mul hn).2 h1
  · exact Nat.mod_lt _ hn
  · simpa [lok] using h2
theorem bev_dcw (n : Nat) (w : List Nat) : bev (lstep n []) (idL n, 0) w = (cxs (idL n) (dcw n w), 0) := bev_lstep n w (idL n, 0)
/-- The least word of a map. -/
def LW (n : Nat) (m : List Nat) (p : List Nat) : Prop := BW (lok n) (n * n) p ∧ cxs (idL n) (dcw n p) = m ∧ ∀ w, BW (lok n) (n * n) w → cxs (idL n) (dcw n w) = m → sle p w
theorem LW.one {n : Nat} {m p q : List Nat} (h : LW n m p) (h' : LW n m q) : p = q := sle_antisymm (h.2.2 q h'.1 h'.2.1) (h'.2.2 p h.1 h.2.1)
theorem BW.cons {ok : Nat → Bool} {E e : Nat} {w : List Nat} : BW ok E (e :: w) ↔ (e < E ∧ ok e = true) ∧ BW ok E w := by
  constructor
  · intro h; exact ⟨h e (by simp), fun x hx => h x (by simp [hx])⟩
  · rintro ⟨h1, h2⟩ x hx
    rcases List.mem_cons.1 hx with rfl | hx
    · exact h1
    · exact h2 x hx
theorem edge_of {n e : Nat} (h : e < n * n ∧ lok n e = true) : e / n < n ∧ e % n < n ∧ e / n ≠ e % n := by
  have := dec_ok (n := n) (w := [e]) (BW.cons.2 ⟨h, fun x hx => (by cases hx)⟩) (e / n, e % n) (by simp [dcw])
  exact this
theorem ev_cons {n e : Nat} {w : List Nat} (he : e < n * n ∧ lok n e = true) (hw : BW (lok n) (n * n) w) : cxs (idL n) (dcw n (e :: w)) = aft (cxs (idL n) (dcw n w)) (e / n) (e % n) := by
  obtain ⟨h1, h2, h3⟩ := edge_of he
  exact cxs_cons_aft h1 h2 h3 (dec_ok hw)
theorem sle_cons {u v : List Nat} {a : Nat} (h : sle (a :: u) (a :: v)) : sle u v := by
  rcases h with h | h
  · exact .inl ((slt_cons a).1 h)
  · exact .inr (List.cons.inj h).2
/-- Behind its first letter a least word is least. -/
theorem LW.tail {n e : Nat} {m p : List Nat} (h : LW n m (e :: p)) : LW n (aft m (e / n) (e % n)) p := by
  obtain ⟨h1, h2, h3⟩ := h
  obtain ⟨he, hp⟩ := BW.cons.1 h1
  obtain ⟨_, _, hne⟩ := edge_of he
  refine ⟨hp, ?_, fun w hw hm => sle_cons (a := e) (h3 (e :: w) (BW.cons.2 ⟨he, hw⟩) ?_)⟩
  · rw [← h2, ev_cons he hp, aft_aft hne]
  · rw [ev_cons he hw, hm, aft_aft hne]
/-- No smaller first letter leads nearer. -/
theorem LW.head {n e k : Nat} {m p q : List Nat} (h : LW n m (e :: p)) (hk : k < n * n ∧ lok n k = true) (hke : k < e) (hq : LW n (aft m (k / n) (k % n)) q) : p.length < q.length := by
  refine Nat.lt_of_not_le fun hle => ?_
  obtain ⟨_, _, hne⟩ := edge_of hk
  have h1 := h.2.2 (k :: q) (BW.cons.2 ⟨hk, hq.1⟩) (by rw [ev_cons hk hq.1, hq.2.1, aft_aft hne])
  have h2 : slt (k :: q) (e :: p) := by
    rcases Nat.lt_or_ge q.length p.length with h3 | h3
    · exact .inl (by simpa using h3)
    · exact slt_head (by omega) hke
  rcases h1 with h1 | h1
  · exact slt_irrefl _ (slt_trans h1 h2)
  · rw [h1] at h2; exact slt_irrefl _ h2
end Go.Proofs.Yteehfidjofcfmaa
/- Groups of slices of int; the laws' own functions on [][]int. -/
set_option linter.unusedSimpArgs false
set_option linter.unusedVariables false
namespace Go.Proofs.Yteehfidjofcfmaa
open Go Go.RowKit
/-- A group of slices of int, with their numbers. -/
def gl (ps : List (Value × List Int)) : List (Value × Nat × List Value) := ps.map fun p => (p.1, p.2.length, ints p.2)
/-- The outer slice's cells. -/
def oc (ps : List (Value × List Int)) : List Value := ps.map (·.1)
@[simp] theorem oc_length (ps : List (Value × List Int)) : (oc ps).length = ps.length := by simp [oc]
theorem Weak.grpSnoc {H : List Res} {e : TypeId} {size : Nat} {v : Value} {l : List Int} {ps : List (Value × List Int)} : Weak (.own v e size l.length (ints l) :: .grp e size (gl ps) :: H) (.grp e size (gl (ps ++ [(v, l)])) :: H) :=
  Weak.grpIn.trans (Weak.grpPerm (by unfold gl; rw [List.map_append]; exact (List.perm_append_singleton _ _).symm))
theorem Weak.grpTake {H : List Res} {e : TypeId} {size : Nat} {p : Value × List Int} {A B : List (Value × List Int)} : Weak (.grp e size (gl (A ++ p :: B)) :: H) (.own p.1 e size p.2.length (ints p.2) :: .grp e size (gl (A ++ B)) :: H) :=
  (Weak.grpPerm (l' := gl (p :: (A ++ B))) (List.perm_middle.map _)).trans Weak.grpOut
theorem Weak.grpPut {H : List Res} {e : TypeId} {size : Nat} {p : Value × List Int} {A B : List (Value × List Int)} : Weak (.own p.1 e size p.2.length (ints p.2) :: .grp e size (gl (A ++ B)) :: H) (.grp e size (gl (A ++ p :: B)) :: H) :=
  Weak.grpIn.trans (Weak.grpPerm (l := gl (p :: (A ++ B))) (List.perm_middle.map _).symm)
end Go.Proofs.Yteehfidjofcfmaa
/- Walks: the laws' own functions on slices of slices of int. -/
set_option linter.unusedSimpArgs false
set_option linter.unusedVariables false
namespace Go.Proofs.Yteehfidjofcfmaa
open Go Go.RowKit
def vx (ps : List (Value × List Int)) (i : Nat) : Value := (ps.map (·.1)).getD i undef
def lx (ps : List (Value × List Int)) (i : Nat) : List Int := (ps.map (·.2)).getD i []
/-- Each member can be read. -/
def GrpSl (w : World) (ps : List (Value × List Int)) : Prop := ∀ i, i < ps.length → Sl w (vx ps i) 1 (lx ps i).length (ints (lx ps i))
theorem GrpSl.go {w0 w : World} {H : List Res} {ps : List (Value × List Int)} (h : GrpSl w0 ps) (hs : St No w0 w H) : GrpSl w ps := fun i hi => hs.sl (h i hi)
/-- The lists written over with k, k + 1, .. -/
def mkps : Int → List (Value × List Int) → List (Value × List Int)
  | _, [] => []
  | k, p :: ps => (p.1, mks k p.2.length) :: mkps (k + (p.2.length : Nat)) ps
@[simp] theorem mkps_length : ∀ (ps : List (Value × List Int)) (k : Int), (mkps k ps).length = ps.length
  | [], _ => rfl
  | p :: ps, k => by simp [mkps, mkps_length ps]
end Go.Proofs.Yteehfidjofcfmaa
