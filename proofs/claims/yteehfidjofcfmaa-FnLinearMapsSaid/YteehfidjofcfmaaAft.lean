/- Plain laws: what remains of a map behind a first controlled NOT; least words. -/
import Derived.Test.YteehfidjofcfmaaCdi
set_option linter.unusedSimpArgs false
set_option linter.unusedVariables false
namespace Go.Proofs.Yteehfidjofcfmaa
open Go Go.RowKit

def aftF (a b y : Nat) : Nat := if y.testBit b then y ^^^ 2 ^ a else y
/-- What remains of a map that starts with a controlled NOT. -/
def aft (l : List Nat) (a b : Nat) : List Nat := l.map (aftF a b)
@[simp] theorem aft_length (l : List Nat) (a b : Nat) : (aft l a b).length = l.length := by simp [aft]
theorem aftF_zero (a b : Nat) : aftF a b 0 = 0 := by simp [aftF]
theorem nx_aft (l : List Nat) (a b i : Nat) : nx (aft l a b) i = aftF a b (nx l i) := by
  simp only [nx, aft, List.getD, List.getElem?_map]
  cases l[i]? with
  | none => simp [aftF_zero]
  | some x => rfl
theorem testBit_aftF (a b y j : Nat) : (aftF a b y).testBit j = (y.testBit j ^^ (y.testBit b && decide (a = j))) := by
  unfold aftF
  split
  · rename_i h; rw [Nat.testBit_xor, Nat.testBit_two_pow, h, Bool.true_and]
  · rename_i h; simp [h]
theorem aftF_xor (a b x y : Nat) : aftF a b (x ^^^ y) = aftF a b x ^^^ aftF a b y := by
  refine Nat.eq_of_testBit_eq fun j => ?_
  rw [testBit_aftF, Nat.testBit_xor, Nat.testBit_xor, Nat.testBit_xor, testBit_aftF, testBit_aftF]
  cases x.testBit j <;> cases y.testBit j <;> cases x.testBit b <;> cases y.testBit b <;> cases decide (a = j) <;> rfl
theorem aftF_aftF {a b : Nat} (h : a ≠ b) (y : Nat) : aftF a b (aftF a b y) = y := by
  refine Nat.eq_of_testBit_eq fun j => ?_
  rw [testBit_aftF, testBit_aftF, testBit_aftF, decide_eq_false h]
  cases y.testBit j <;> cases y.testBit b <;> cases decide (a = j) <;> rfl
theorem aft_aft {a b : Nat} (h : a ≠ b) (l : List Nat) : aft (aft l a b) a b = l := by
  unfold aft
  rw [List.map_map]
  have : aftF a b ∘ aftF a b = id := by funext y; exact aftF_aftF h y
  rw [this, List.map_id]
theorem aft_cx {l : List Nat} {e : Nat × Nat} (a b : Nat) (h2 : e.2 < l.length) : aft (cx l e) a b = cx (aft l a b) e := by
  refine list_ext_nx (by simp [cx]) fun i hi => ?_
  have hi' : i < l.length := by simpa [cx] using hi
  rw [nx_aft, nx_cx hi', nx_cx (by simpa using hi'), nx_aft, nx_aft]
  split
  · rw [aftF_xor]
  · rfl
theorem aft_cxs (a b : Nat) {n : Nat} : ∀ (w : List (Nat × Nat)) (l : List Nat), l.length = n → WOk n w → aft (cxs l w) a b = cxs (aft l a b) w
  | [], l, _, _ => rfl
  | e :: w, l, hl, h => by
    have he := h e (by simp)
    have ih := aft_cxs a b (n := n) w (cx l e) (by simp [cx, hl]) fun e' he' => h e' (by simp [he'])
    simp only [cxs, List.foldl_cons] at ih ⊢
    rw [ih, aft_cx a b (by omega)]
theorem aft_idL {n a b : Nat} (ha : a < n) (hb : b < n) (hab : a ≠ b) : aft (idL n) a b = cx (idL n) (a, b) := by
  have hl : (idL n).length = n := by simp [idL]
  refine list_ext_nx (by simp [cx]) fun i hi => ?_
  have hi' : i < n := by simpa [hl] using hi
  rw [nx_aft, nx_cx (by rw [hl]; exact hi'), nx_idL hi', nx_idL ha]
  simp only [aftF, Nat.testBit_two_pow]
  by_cases h : i = b
  · subst h; simp
  · rw [if_neg (by simpa using h), if_neg (fun e => h e.symm)]
theorem cxs_cons_aft {n a b : Nat} (ha : a < n) (hb : b < n) (hab : a ≠ b) {w : List (Nat × Nat)} (hw : WOk n w) : cxs (idL n) ((a, b) :: w) = aft (cxs (idL n) w) a b := by
  rw [aft_cxs a b w (idL n) (by simp [idL]) hw, aft_idL ha hb hab]; rfl
/-- A word by numbers, as pairs. -/
def dcw (n : Nat) (w : List Nat) : List (Nat × Nat) := w.map fun e => (e / n, e % n)
theorem dec_ok {n : Nat} {w : List Nat} (h : BW (lok n) (n * n) w) : WOk n (dcw n w) := by
  intro x hx
  obtain ⟨e, he, rfl⟩ := List.mem_map.1 hx
  obtain ⟨h1, h2⟩ := h e he
  have hn : 0 < n := by
    rcases Nat.eq_zero_or_pos n with h0 | h0
    · subst h0; simp at h1
    · exact h0
  refine ⟨?_, ?_, ?_⟩
  · exact (Nat.div_lt_iff_lt_mul hn).2 h1
  · exact Nat.mod_lt _ hn
  · simpa [lok] using h2
theorem bev_dcw (n : Nat) (w : List Nat) : bev (lstep n []) (idL n, 0) w = (cxs (idL n) (dcw n w), 0) := bev_lstep n w (idL n, 0)
/-- The least word of a map. -/
def LW (n : Nat) (m : List Nat) (p : List Nat) : Prop := BW (lok n) (n * n) p ∧ cxs (idL n) (dcw n p) = m ∧ ∀ w, BW (lok n) (n * n) w → cxs (idL n) (dcw n w) = m → sle p w
theorem LW.one {n : Nat} {m p q : List Nat} (h : LW n m p) (h' : LW n m q) : p = q := sle_antisymm (h.2.2 q h'.1 h'.2.1) (h'.2.2 p h.1 h.2.1)
theorem BW.cons {ok : Nat → Bool} {E e : Nat} {w : List Nat} : BW ok E (e :: w) ↔ (e < E ∧ ok e = true) ∧ BW ok E w := by
  constructor
  · intro h; exact ⟨h e (by simp), fun x hx => h x (by simp [hx])⟩
  · rintro ⟨h1, h2⟩ x hx
    rcases List.mem_cons.1 hx with rfl | hx
    · exact h1
    · exact h2 x hx
theorem edge_of {n e : Nat} (h : e < n * n ∧ lok n e = true) : e / n < n ∧ e % n < n ∧ e / n ≠ e % n := by
  have := dec_ok (n := n) (w := [e]) (BW.cons.2 ⟨h, fun x hx => (by cases hx)⟩) (e / n, e % n) (by simp [dcw])
  exact this
theorem ev_cons {n e : Nat} {w : List Nat} (he : e < n * n ∧ lok n e = true) (hw : BW (lok n) (n * n) w) : cxs (idL n) (dcw n (e :: w)) = aft (cxs (idL n) (dcw n w)) (e / n) (e % n) := by
  obtain ⟨h1, h2, h3⟩ := edge_of he
  exact cxs_cons_aft h1 h2 h3 (dec_ok hw)
theorem sle_cons {u v : List Nat} {a : Nat} (h : sle (a :: u) (a :: v)) : sle u v := by
  rcases h with h | h
  · exact .inl ((slt_cons a).1 h)
  · exact .inr (List.cons.inj h).2
/-- Behind its first letter a least word is least. -/
theorem LW.tail {n e : Nat} {m p : List Nat} (h : LW n m (e :: p)) : LW n (aft m (e / n) (e % n)) p := by
  obtain ⟨h1, h2, h3⟩ := h
  obtain ⟨he, hp⟩ := BW.cons.1 h1
  obtain ⟨_, _, hne⟩ := edge_of he
  refine ⟨hp, ?_, fun w hw hm => sle_cons (a := e) (h3 (e :: w) (BW.cons.2 ⟨he, hw⟩) ?_)⟩
  · rw [← h2, ev_cons he hp, aft_aft hne]
  · rw [ev_cons he hw, hm, aft_aft hne]
/-- No smaller first letter leads nearer. -/
theorem LW.head {n e k : Nat} {m p q : List Nat} (h : LW n m (e :: p)) (hk : k < n * n ∧ lok n k = true) (hke : k < e) (hq : LW n (aft m (k / n) (k % n)) q) : p.length < q.length := by
  refine Nat.lt_of_not_le fun hle => ?_
  obtain ⟨_, _, hne⟩ := edge_of hk
  have h1 := h.2.2 (k :: q) (BW.cons.2 ⟨hk, hq.1⟩) (by rw [ev_cons hk hq.1, hq.2.1, aft_aft hne])
  have h2 : slt (k :: q) (e :: p) := by
    rcases Nat.lt_or_ge q.length p.length with h3 | h3
    · exact .inl (by simpa using h3)
    · exact slt_head (by omega) hke
  rcases h1 with h1 | h1
  · exact slt_irrefl _ (slt_trans h1 h2)
  · rw [h1] at h2; exact slt_irrefl _ h2
theorem LW.nil_iff {n : Nat} {m p : List Nat} (h : LW n m p) : p = [] ↔ m = idL n := by
  constructor
  · rintro rfl; exact h.2.1.symm
  · rintro rfl
    have := sle_len (h.2.2 [] (fun e he => by cases he) rfl)
    exact List.length_eq_zero_iff.1 (by simpa using this)
abbrev lq (n i : Nat) : List ((List Nat × Nat) × List Nat) := bfs (lstep n []) (lok n) (n * n) (idL n, 0) i
theorem lq_found {n i : Nat} {y : (List Nat × Nat) × List Nat} (hy : y ∈ lq n i) : y.1.2 = 0 := bfs_keys (p := fun k => k.2 = 0) (fun k e h _ _ => by rw [lstep_nil]; exact h) rfl i y hy
theorem lq_len {n i : Nat} {y : (List Nat × Nat) × List Nat} (hy : y ∈ lq n i) : y.1.1.length = n := bfs_keys (p := fun k => k.1.length = n) (fun k e h _ _ => by rw [lstep_nil]; simp [cx, h]) (by simp [idL]) i y hy
theorem lq_lt {n i : Nat} {y : (List Nat × Nat) × List Nat} (hy : y ∈ lq n i) : ∀ j, nx y.1.1 j < 2 ^ n := by
  have := bfs_keys (step := lstep n []) (ok := lok n) (E := n * n) (s := (idL n, 0)) (p := fun k => k.1.length = n ∧ ∀ j, nx k.1 j < 2 ^ n) (fun k e h _ _ => by
    rw [lstep_nil]
    refine ⟨by simp [cx, h.1], fun j => ?_⟩
    by_cases hj : j < k.1.length
    · rw [nx_cx hj]
      split
      · exact Nat.xor_lt_two_pow (h.2 _) (h.2 _)
      · exact h.2 _
    · rw [nx_ge (by simp [cx]; omega)]; exact Nat.two_pow_pos n) ⟨by simp [idL], fun j => by
        by_cases hj : j < n
        · rw [nx_idL hj]; exact Nat.pow_lt_pow_right (by omega) hj
        · rw [nx_ge (by simp [idL]; omega)]; exact Nat.two_pow_pos n⟩ i y hy
  exact this.2
theorem lq_small {n : Nat} (h4 : n ≤ 4) (i : Nat) : (lq n i).length ≤ 65536 := by
  refine bfs_small (p := fun k : List Nat × Nat => k.1.length = n ∧ (∀ j, nx k.1 j < 16) ∧ k.2 = 0) (code := fun k => cdN k.1 k.1.length) ?_ ?_ ?_ ?_ i
  · intro k e h _ _
    rw [lstep_nil]
    refine ⟨by simp [cx, h.1], fun j => ?_, h.2.2⟩
    by_cases hj : j < k.1.length
    · rw [nx_cx hj]
      split
      · exact Nat.xor_lt_two_pow (n := 4) (h.2.1 _) (h.2.1 _)
      · exact h.2.1 _
    · rw [nx_ge (by simp [cx]; omega)]; omega
  · refine ⟨by simp [idL], fun j => ?_, rfl⟩
    by_cases hj : j < n
    · rw [nx_idL hj]; exact Nat.lt_of_le_of_lt (Nat.pow_le_pow_right (by omega) (show j ≤ 3 by omega)) (by decide)
    · rw [nx_ge (by simp [idL]; omega)]; omega
  · intro k h
    exact Nat.lt_of_lt_of_le (cdN_lt h.2.1 _) (by rw [h.1]; exact Nat.le_trans (Nat.pow_le_pow_right (by omega) h4) (by decide))
  · intro k k' h h' e
    have := code_inj (h.1.trans h'.1.symm) h.2.1 h'.2.1 e
    exact Prod.ext this (h.2.2.trans h'.2.2.symm)
theorem lq_end {n : Nat} (h4 : n ≤ 4) : (lq n 65536).length ≤ 65536 := lq_small h4 _
/-- Every entry's path is the least word of its map. -/
theorem lq_LW {n i : Nat} (h4 : n ≤ 4) {y : (List Nat × Nat) × List Nat} (hy : y ∈ lq n i) : LW n y.1.1 y.2 := by
  have hev := (bfs_inv (step := lstep n []) (ok := lok n) (E := n * n) (s := (idL n, 0)) i).ev y hy
  have hok := (bfs_inv (step := lstep n []) (ok := lok n) (E := n * n) (s := (idL n, 0)) i).okw y hy
  refine ⟨hok, by rw [← hev, bev_dcw], fun w hw hm => ?_⟩
  have hm2 : bev (lstep n []) (idL n, 0) w = y.1 := by rw [bev_dcw, hm]; exact Prod.ext rfl (lq_found hy).symm
  obtain ⟨t, ht⟩ := bfs_le (step := lstep n []) (ok := lok n) (E := n * n) (s := (idL n, 0)) (i := i) (j := max i 65536) (Nat.le_max_left _ _)
  obtain ⟨z, hz, h1, h2⟩ := bfs_min (step := lstep n []) (ok := lok n) (E := n * n) (s := (idL n, 0)) (i := max i 65536) (Nat.le_trans (lq_small h4 _) (Nat.le_max_right _ _)) w hw
  have hy2 : y ∈ bfs (lstep n []) (lok n) (n * n) (idL n, 0) (max i 65536) := by rw [ht]; exact List.mem_append.2 (.inl hy)
  have := bfs_one hz hy2 (h1.trans hm2)
  rw [← this]; exact h2
/-- Every word's map is found. -/
theorem lq_all {n : Nat} (h4 : n ≤ 4) {w : List Nat} (hw : BW (lok n) (n * n) w) : ∃ p, ((cxs (idL n) (dcw n w), 0), p) ∈ lq n 65536 := by
  obtain ⟨z, hz, h1, _⟩ := bfs_min (step := lstep n []) (ok := lok n) (E := n * n) (s := (idL n, 0)) (lq_end h4) w hw
  rw [bev_dcw] at h1
  exact ⟨z.2, by rw [← h1]; exact hz⟩
theorem LW.mem {n : Nat} (h4 : n ≤ 4) {m p : List Nat} (h : LW n m p) : ((m, 0), p) ∈ lq n 65536 := by
  obtain ⟨q, hq⟩ := lq_all h4 h.1
  rw [h.2.1] at hq
  have := (lq_LW h4 hq).one h
  simp only at this
  rw [← this]; exact hq
/-- What stands before an entry is found no later. -/
theorem lq_before {n i : Nat} (h4 : n ≤ 4) {m p k q : List Nat} (hm : ((m, 0), p) ∈ lq n i) (hk : LW n k q) (hlt : q.length < p.length) : ((k, 0), q) ∈ lq n i := by
  have hk2 := hk.mem h4
  obtain ⟨t, ht⟩ := bfs_le (step := lstep n []) (ok := lok n) (E := n * n) (s := (idL n, 0)) (i := i) (j := max i 65536) (Nat.le_max_left _ _)
  obtain ⟨u, hu⟩ := bfs_le (step := lstep n []) (ok := lok n) (E := n * n) (s := (idL n, 0)) (i := 65536) (j := max i 65536) (Nat.le_max_right _ _)
  have hk3 : ((k, 0), q) ∈ bfs (lstep n []) (lok n) (n * n) (idL n, 0) (max i 65536) := by rw [hu]; exact List.mem_append.2 (.inl hk2)
  have hsrt := (bfs_inv (step := lstep n []) (ok := lok n) (E := n * n) (s := (idL n, 0)) (max i 65536)).srt
  rw [ht] at hk3 hsrt
  rcases List.mem_append.1 hk3 with h | h
  · exact h
  · exfalso
    have h1 := (List.pairwise_append.1 hsrt).2.2 _ hm _ h
    have h2 := sle_len (.inl h1 : sle p q)
    omega

end Go.Proofs.Yteehfidjofcfmaa
