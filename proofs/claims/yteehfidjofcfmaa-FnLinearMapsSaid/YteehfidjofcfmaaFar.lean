/- Plain laws: the table of distances of linear maps. -/
import Derived.Test.YteehfidjofcfmaaShp
set_option linter.unusedSimpArgs false
set_option linter.unusedVariables false
namespace Go.Proofs.Yteehfidjofcfmaa
open Go Go.RowKit

theorem apF_nil : ∀ q, apF [] q = 0
  | 0 => rfl
  | q + 1 => by rw [apF, apF_nil q, apx_nil]
theorem mQ_nil (n i : Nat) : mQ n [] i = lq n i := by rw [mQ, apF_nil]
abbrev BQ := (List Nat × Nat) × List Nat
def cdK (k : List Nat × Nat) : Nat := cdN k.1 k.1.length
def farA : List Int → List BQ → List Int
  | f, [] => f
  | f, y :: q => farA (f.set (cdK y.1) ((y.2.length : Int) + 1)) q
theorem farA_length : ∀ (q : List BQ) (f : List Int), (farA f q).length = f.length
  | [], _ => rfl
  | y :: q, f => by rw [farA, farA_length q]; simp
theorem farA_snoc : ∀ (q : List BQ) (f : List Int) (y : BQ), farA f (q ++ [y]) = (farA f q).set (cdK y.1) ((y.2.length : Int) + 1)
  | [], _, _ => rfl
  | x :: q, f, y => by rw [List.cons_append, farA, farA_snoc q, farA]
theorem ix_set_ne {xs : List Int} {i j : Nat} {a : Int} (h : i ≠ j) : ix (xs.set i a) j = ix xs j := by simp [ix, List.getD, List.getElem?_set_ne h]
theorem ix_set_eq {xs : List Int} {i : Nat} {a : Int} (h : i < xs.length) : ix (xs.set i a) i = a := by simp [ix, List.getD, h]
theorem farA_miss : ∀ (q : List BQ) (f : List Int) (c : Nat), (∀ y ∈ q, cdK y.1 ≠ c) → ix (farA f q) c = ix f c
  | [], _, _, _ => rfl
  | y :: q, f, c, h => by
    rw [farA, farA_miss q _ c fun z hz => h z (by simp [hz]), ix_set_ne (h y (by simp))]
theorem farA_hit : ∀ (q : List BQ) (f : List Int), (q.map fun y => cdK y.1).Nodup → (∀ y ∈ q, cdK y.1 < f.length) → ∀ y ∈ q, ix (farA f q) (cdK y.1) = (y.2.length : Int) + 1
  | [], _, _, _, y, hy => by cases hy
  | x :: q, f, hn, hl, y, hy => by
    have hn' := List.nodup_cons.1 hn
    rw [farA]
    rcases List.mem_cons.1 hy with rfl | hy
    · rw [farA_miss q _ _ fun z hz e => hn'.1 (List.mem_map.2 ⟨z, hz, e⟩), ix_set_eq (hl y (by simp))]
    · exact farA_hit q _ hn'.2 (fun z hz => by rw [List.length_set]; exact hl z (by simp [hz])) y hy
def zerosI (N : Nat) : List Int := List.replicate N 0
theorem zeros_flat (N : Nat) : (List.replicate N ([.int .i64 0] : List Value)).flatten = ints (zerosI N) := by
  induction N with
  | zero => rfl
  | succ N ih => rw [List.replicate_succ, List.flatten_cons, ih]; simp [ints, zerosI, List.replicate_succ]
theorem zerosI_length (N : Nat) : (zerosI N).length = N := by simp [zerosI]
theorem ix_zerosI (N j : Nat) : ix (zerosI N) j = 0 := by
  simp only [ix, List.getD, zerosI, List.getElem?_replicate]; split <;> rfl
/-- The table behind a queue. -/
def farL (N : Nat) (q : List BQ) : List Int := farA (zerosI N) q
theorem farL_length (N : Nat) (q : List BQ) : (farL N q).length = N := by rw [farL, farA_length, zerosI_length]
theorem farL_snoc (N : Nat) (q : List BQ) (y : BQ) : farL N (q ++ [y]) = (farL N q).set (cdK y.1) ((y.2.length : Int) + 1) := farA_snoc q _ y
theorem farL_nil (N : Nat) : farL N [] = zerosI N := rfl
/-- Keys of the table. -/
def fK (n : Nat) (k : List Nat × Nat) : Prop := k.1.length = n ∧ (∀ j, nx k.1 j < 16) ∧ k.2 = 0
theorem fK_inj {n : Nat} {k k' : List Nat × Nat} (h : fK n k) (h' : fK n k') (e : cdK k = cdK k') : k = k' := by
  have h1 := code_inj (h.1.trans h'.1.symm) h.2.1 h'.2.1 e
  exact Prod.ext h1 (h.2.2.trans h'.2.2.symm)
theorem fK_lt {n : Nat} (h4 : n ≤ 4) {k : List Nat × Nat} (h : fK n k) : cdK k < 65536 :=
  Nat.lt_of_lt_of_le (cdN_lt h.2.1 _) (by rw [h.1]; exact Nat.le_trans (Nat.pow_le_pow_right (by omega) h4) (by decide))
theorem farL_hit {n N : Nat} (hN : N = 65536) (h4 : n ≤ 4) {q : List BQ} (hq : ∀ y ∈ q, fK n y.1) (hn : (q.map (·.1)).Nodup) {y : BQ} (hy : y ∈ q) : ix (farL N q) (cdK y.1) = (y.2.length : Int) + 1 := by
  refine farA_hit q _ ?_ (fun z hz => by rw [zerosI_length, hN]; exact fK_lt h4 (hq z hz)) y hy
  rw [show q.map (fun y => cdK y.1) = (q.map (·.1)).map cdK by simp [Function.comp_def]]
  refine List.pairwise_map.2 (hn.imp_of_mem fun {a b} ha hb hne e => hne ?_)
  obtain ⟨y, hy, rfl⟩ := List.mem_map.1 ha
  obtain ⟨z, hz, rfl⟩ := List.mem_map.1 hb
  exact fK_inj (hq y hy) (hq z hz) e
theorem farL_miss {n N : Nat} {q : List BQ} (hq : ∀ y ∈ q, fK n y.1) {k : List Nat × Nat} (hk : fK n k) (h : k ∉ q.map (·.1)) : ix (farL N q) (cdK k) = 0 := by
  rw [farL, farA_miss q _ _ fun y hy e => h (List.mem_map.2 ⟨y, hy, fK_inj (hq y hy) hk e⟩), ix_zerosI]
theorem farL_pos {n N : Nat} (hN : N = 65536) (h4 : n ≤ 4) {q : List BQ} (hq : ∀ y ∈ q, fK n y.1) (hn : (q.map (·.1)).Nodup) {k : List Nat × Nat} (hk : fK n k) : ix (farL N q) (cdK k) = 0 ↔ k ∉ q.map (·.1) := by
  constructor
  · intro h0 hm
    obtain ⟨y, hy, rfl⟩ := List.mem_map.1 hm
    rw [farL_hit hN h4 hq hn hy] at h0; omega
  · exact farL_miss hq hk
theorem fK_step {n : Nat} {k : List Nat × Nat} (e : Nat) (h : fK n k) : fK n (lstep n [] k e) := by
  rw [lstep_nil]
  refine ⟨by simp [cx, h.1], fun j => ?_, h.2.2⟩
  by_cases hj : j < k.1.length
  · rw [nx_cx hj]
    split
    · exact Nat.xor_lt_two_pow (n := 4) (h.2.1 _) (h.2.1 _)
    · exact h.2.1 _
  · rw [nx_ge (by simp [cx]; omega)]; omega
theorem fK_id {n : Nat} (h4 : n ≤ 4) : fK n (idL n, 0) := by
  refine ⟨by simp [idL], fun j => ?_, rfl⟩
  by_cases hj : j < n
  · rw [nx_idL hj]; exact Nat.lt_of_le_of_lt (Nat.pow_le_pow_right (by omega) (show j ≤ 3 by omega)) (by decide)
  · rw [nx_ge (by simp [idL]; omega)]; omega
theorem lq_fK {n i : Nat} (h4 : n ≤ 4) {y : BQ} (hy : y ∈ lq n i) : fK n y.1 :=
  bfs_keys (p := fK n) (fun _ e h _ _ => fK_step e h) (fK_id h4) i y hy
theorem lq_nd {n i : Nat} : ((lq n i).map (·.1)).Nodup := (bfs_inv (step := lstep n []) (ok := lok n) (E := n * n) (s := (idL n, 0)) i).nd
/-- Every map of full rank is found. -/
theorem lq_found_all {n : Nat} (h4 : n ≤ 4) {m : List Nat} (hl : m.length = n) (hb : ∀ i, i < n → nx m i < 2 ^ n) (hi : Indep m) {i : Nat} (hq : (lq n i).length ≤ i) : (m, 0) ∈ (lq n i).map (·.1) := by
  obtain ⟨v, h1, h2, h3⟩ := reach_word (full_reach hl hb hi)
  obtain ⟨y, hy, h5, _⟩ := bfs_min (step := lstep n []) (ok := lok n) (E := n * n) (s := (idL n, 0)) hq v h1
  rw [h3] at h5
  exact List.mem_map.2 ⟨y, hy, h5⟩
theorem LW.len {n : Nat} {m p : List Nat} (h : LW n m p) (hl : m.length = n) (hb : ∀ i, i < n → nx m i < 2 ^ n) (hi : Indep m) : p.length ≤ n * (n + 3) := by
  obtain ⟨v, h1, h2, h3⟩ := reach_word (full_reach hl hb hi)
  rw [bev_dcw] at h3
  exact Nat.le_trans (sle_len (h.2.2 v h1 (congrArg Prod.fst h3))) h2

end Go.Proofs.Yteehfidjofcfmaa
