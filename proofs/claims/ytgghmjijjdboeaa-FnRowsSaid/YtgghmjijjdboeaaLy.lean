/- Walks: the layers and the depth of a circuit. -/
import Derived.Test.YtgghmjijjdboeaaTd
import Derived.Test.YtgghmjijjdboeaaProg
set_option linter.unusedSimpArgs false
set_option linter.unusedVariables false
namespace Go.Proofs.Ytgghmjijjdboeaa
open Go Go.RowKit
namespace LyT
theorem Tone_3 : oneOf Try.prog 3 = true := by kernel_rfl
theorem Tsl_34 : sliceOf Try.prog 34 = some (3, 1, 8, [.int .i64 0]) := by kernel_rfl
end LyT
open LyT

theorem rep0 (n : Nat) : (List.replicate n [Value.int .i64 0]).flatten = ints (List.replicate n 0) := by simp [ints, List.flatten_replicate_singleton]
def outS (inc : Int → Int) (xs : List Int) (n k : Nat) : List Int := deepL inc xs k ++ List.replicate (n - k) 0
theorem outS_length {inc : Int → Int} {xs : List Int} {n k : Nat} (h : k ≤ n) : (outS inc xs n k).length = n := by simp [outS]; omega
theorem outS_n (inc : Int → Int) (xs : List Int) (n : Nat) : outS inc xs n n = deepL inc xs n := by simp [outS]
theorem outS_zero (inc : Int → Int) (xs : List Int) (n : Nat) : outS inc xs n 0 = List.replicate n 0 := by simp [outS, deepL]
theorem ix_outS {inc : Int → Int} {xs : List Int} {n k : Nat} (h : k < n) : ix (outS inc xs n k) k = 0 := by
  simp only [ix, outS, List.getD, List.getElem?_append_right (show (deepL inc xs k).length ≤ k by simp), deepL_length, Nat.sub_self]
  rw [show n - k = (n - k - 1) + 1 by omega, List.replicate_succ]; rfl
theorem ix_outS_succ {inc : Int → Int} {xs : List Int} {n k : Nat} : ix (outS inc xs n (k + 1)) k = dep inc xs k := by
  simp only [ix, outS, List.getD, List.getElem?_append_left (show k < (deepL inc xs (k + 1)).length by simp)]
  exact ix_deepL (by omega)
theorem outS_set {inc : Int → Int} {xs : List Int} {n k : Nat} (h : k < n) : (outS inc xs n k).set k (dep inc xs k) = outS inc xs n (k + 1) := by
  have e : n - k = (n - (k + 1)) + 1 := by omega
  simp only [outS, deepL_succ, e, List.replicate_succ]
  rw [List.set_append_right _ _ (by simp)]
  simp
theorem outS_set0 {inc : Int → Int} {xs : List Int} {n k : Nat} (h : k < n) : (outS inc xs n k).set k 0 = outS inc xs n k := by
  have e : n - k = (n - (k + 1)) + 1 := by omega
  simp only [outS, e, List.replicate_succ]
  rw [List.set_append_right _ _ (by simp)]
  simp
def top1 (b : Int → Int) (Q : List Int) : Int := Q.foldl (fun m q => max m (b q + 1)) 0
theorem top1_take (b : Int → Int) (Q : List Int) {k : Nat} (hk : k < Q.length) : top1 b (Q.take (k + 1)) = max (top1 b (Q.take k)) (b (ix Q k) + 1) := by
  have e : Q.take (k + 1) = Q.take k ++ [ix Q k] := by rw [List.take_add_one]; simp [ix, List.getD, hk]
  rw [e, top1, top1, List.foldl_append]; rfl
theorem top1_dep {xs : List Int} {i : Nat} : top1 (bst incL xs i) (gq xs i) = dep incL xs i := by
  have hb := bst_nonneg (fun k => (incL_range k).1) xs i
  unfold dep gq qs
  by_cases h : ix xs (i * 3) = 12
  · simp [h, top1, top, incL]
  · by_cases h2 : 9 ≤ ix xs (i * 3) ∧ ix xs (i * 3) ≤ 11
    · have h3 := hb (ix xs (i * 3 + 1)); have h4 := hb (ix xs (i * 3 + 2))
      simp only [if_neg h, if_pos h2, top1, top, incL, List.foldl_cons, List.foldl_nil]; omega
    · have h3 := hb (ix xs (i * 3 + 1))
      simp only [if_neg h, if_neg h2, top1, top, incL, List.foldl_cons, List.foldl_nil]; omega
theorem top1_bound {xs : List Int} {i m : Nat} {Q : List Int} : 0 ≤ top1 (bst incL xs i) (Q.take m) ∧ top1 (bst incL xs i) (Q.take m) ≤ i + 1 := by
  have hb := (bst_le (fun k => (incL_range k).2) xs i).1
  have key : ∀ (Q : List Int) (m : Int), 0 ≤ m → m ≤ i + 1 → 0 ≤ Q.foldl (fun m q => max m (bst incL xs i q + 1)) m ∧ Q.foldl (fun m q => max m (bst incL xs i q + 1)) m ≤ i + 1 := by
    intro Q
    induction Q with
    | nil => intro m h1 h2; exact ⟨h1, h2⟩
    | cons a Q ih => intro m h1 h2; have := hb a; exact ih _ (by show 0 ≤ max m (bst incL xs i a + 1); omega) (by show max m (bst incL xs i a + 1) ≤ _; omega)
  exact key _ 0 (by omega) (by omega)
/-- The greatest of the first m + 1 numbers. -/
def lmx (xs : List Int) : Nat → Int
  | 0 => ix xs 0
  | m + 1 => max (lmx xs m) (ix xs (m + 1))
theorem lmx_deep (xs : List Int) (n : Nat) : lmx (deepL incL xs n ++ [0]) n = mxD incL xs n := by
  have hd := dep_nonneg (fun k => (incL_range k).1) xs
  have hix : ∀ j, j < n → ix (deepL incL xs n ++ [0]) j = dep incL xs j := by
    intro j hj
    have : ix (deepL incL xs n ++ [0]) j = ix (deepL incL xs n) j := by simp only [ix, List.getD, List.getElem?_append_left (show j < (deepL incL xs n).length by simpa using hj)]
    rw [this, ix_deepL hj]
  have key : ∀ j, j < n → lmx (deepL incL xs n ++ [0]) j = mxD incL xs (j + 1) := by
    intro j
    induction j with
    | zero => intro h; have := hd 0; simp only [lmx, mxD, hix 0 h]; omega
    | succ j ih => intro h; rw [lmx, ih (by omega), hix (j + 1) h]; rfl
  cases n with
  | zero => simp [lmx, deepL, ix, mxD]
  | succ n =>
    have e : ix (deepL incL xs (n + 1) ++ [0]) (n + 1) = 0 := by
      simp only [ix, List.getD, List.getElem?_append_right (show (deepL incL xs (n + 1)).length ≤ n + 1 by simp), deepL_length, Nat.sub_self]; rfl
    have := (mxD_range incL_range xs (n + 1)).1
    rw [lmx, key n (by omega), e]; omega

set_option maxHeartbeats 1000000 in
set_option maxRecDepth 20000 in
theorem MaxInt_spec {va : Value} {n : Nat} {xs : List Int} {w : World} (h0 : 0 < n) (ha : Sl w va 1 n (ints xs)) : Calls Try.prog 44 #[va] w (Post No w fun v _ => v = .int .i64 (lmx xs (n - 1))) := by
  have hxl := ha.len
  have hn := ha.le
  obtain ⟨A, c, rfl, _, _⟩ := ha.form0
  refine enter (n := 25) (args := [.slice A n c]) Try.func44 rfl rfl (St.empty _ _) ?_
  refine Run.seq ?_
  refine Run.region ?_
  refine Run.q (v := .int .i64 0) rfl (OpQ.y (OpY.pure rfl)) ?_
  refine Run.done ?_
  refine Run.seq ?_
  refine Run.seq ?_
  refine Run.region ?_
  refine Run.q (v := .slice A n c) rfl (OpQ.y (OpY.pure rfl)) ?_
  refine Run.q (v := .int .i64 (((n : Nat) : Int))) rfl (OpQ.y (OpY.len Tsl_34 rfl)) ?_
  refine Run.q (v := .bool (decide ((((n : Nat) : Int)) < 1))) rfl (OpQ.y (OpY.pure rfl)) ?_
  refine Run.done ?_
  refine Run.cond (b := decide ((((n : Nat) : Int)) < 1)) rfl (fun h7 => ?_) (fun h7 => ?_)
  · exact absurd h7 (by simp; omega) --DONE
  · have p7 := h7; try simp only [decide_eq_true_eq, decide_eq_false_iff_not, beq_iff_eq, bne_iff_ne, beq_eq_false_iff_ne, ne_eq, gt_iff_lt, ge_iff_le, Int.not_lt, Int.not_le, bne_eq_false_iff_eq, Bool.not_eq_true', Bool.not_eq_false', Bool.and_eq_true, Bool.and_eq_false_iff, Bool.or_eq_true, Bool.or_eq_false_iff, Decidable.not_not, List.cons.injEq, and_true] at p7
    obtain ⟨b, o, rfl⟩ := ha.opn (by omega)
    refine Run.skip ?_
    refine Run.seq ?_
    refine Run.region ?_
    refine Run.q (v := .slice (some ⟨b, o, none⟩) n c) rfl (OpQ.y (OpY.pure rfl)) ?_
    refine Run.q (v := .pointer (some ⟨b, o, none⟩)) rfl (OpQ.y (OpY.index (kk := 0) Tsl_34 rfl rfl (by omega) (by omega) (by first | rfl | omega))) ?_
    refine Run.q (v := .int .i64 (ix xs (0))) rfl (OpQ.y (OpY.load1 Tone_3 rfl (Cells.arg (k := 0) ha rfl (by omega) (pre1 (by omega))))) ?_
    refine Run.q (v := .int .i64 (ix xs (0))) rfl (OpQ.y (OpY.pure rfl)) ?_
    refine Run.done ?_
    refine Run.seq ?_
    refine Run.seq ?_
    refine Run.region ?_
    refine Run.q (v := .int .i64 1) rfl (OpQ.y (OpY.pure rfl)) ?_
    refine Run.done ?_
    refine Run.block ?_
    refine Run.loop (ι := Nat) [3, 4, 12, 13, 14, 15, 16, 17, 18, 19, 20, 21, 22, 23] (fun m => [(3, .int .i64 (lmx xs m)), (4, .int .i64 ((m : Int) + 1))]) (fun m => []) (fun m => m + 1 ≤ n) (fun m => n - m) 0 ?_ ?_ ?_ ?_
    · omega
    · exact ⟨rfl, rfl, trivial⟩
    · exact (Some'.weak (.nil _))
    · rintro m fr hinv
      show Run _ _ (over _ _ [(3, .int .i64 (lmx xs m)), (4, .int .i64 ((m : Int) + 1))] fr) []
      try dsimp only at hinv
      refine Run.seq ?_
      refine Run.seq ?_
      refine Run.region ?_
      refine Run.q (v := .int .i64 ((m : Int) + 1)) rfl (OpQ.y (OpY.pure rfl)) ?_
      refine Run.q (v := .slice (some ⟨b, o, none⟩) n c) rfl (OpQ.y (OpY.pure rfl)) ?_
      refine Run.q (v := .int .i64 (((n : Nat) : Int))) rfl (OpQ.y (OpY.len Tsl_34 rfl)) ?_
      refine Run.q (v := .bool (decide (((m : Int) + 1) < (((n : Nat) : Int))))) rfl (OpQ.y (OpY.pure rfl)) ?_
      refine Run.done ?_
      refine Run.cond (b := decide (((m : Int) + 1) < (((n : Nat) : Int)))) rfl (fun h15 => ?_) (fun h15 => ?_)
      · have p15 := h15; try simp only [decide_eq_true_eq, decide_eq_false_iff_not, beq_iff_eq, bne_iff_ne, beq_eq_false_iff_ne, ne_eq, gt_iff_lt, ge_iff_le, Int.not_lt, Int.not_le, bne_eq_false_iff_eq, Bool.not_eq_true', Bool.not_eq_false', Bool.and_eq_true, Bool.and_eq_false_iff, Bool.or_eq_true, Bool.or_eq_false_iff, Decidable.not_not, List.cons.injEq, and_true] at p15
        refine Run.skip ?_
        refine Run.seq ?_
        refine Run.block ?_
        refine Run.region ?_
        refine Run.q (v := .int .i64 (lmx xs m)) rfl (OpQ.y (OpY.pure rfl)) ?_
        refine Run.q (v := .slice (some ⟨b, o, none⟩) n c) rfl (OpQ.y (OpY.pure rfl)) ?_
        refine Run.q (v := .int .i64 ((m : Int) + 1)) rfl (OpQ.y (OpY.pure rfl)) ?_
        refine Run.q (v := .pointer (some ⟨b, o + m + 1, none⟩)) rfl (OpQ.y (OpY.index (kk := m + 1) Tsl_34 rfl rfl (by omega) (by omega) (by first | rfl | omega))) ?_
        refine Run.q (v := .int .i64 (ix xs (m + 1))) rfl (OpQ.y (OpY.load1 Tone_3 rfl (Cells.arg (k := m + 1) ha rfl (by omega) (pre1 (by omega))))) ?_
        refine Run.q (v := .int .i64 (max (lmx xs m) (ix xs (m + 1)))) rfl (OpQ.y (OpY.max rfl rfl)) ?_
        refine Run.q (v := .int .i64 (max (lmx xs m) (ix xs (m + 1)))) rfl (OpQ.y (OpY.pure rfl)) ?_
        refine Run.done ?_
        refine Run.blockEnd ?_
        refine Run.region ?_
        refine Run.q (v := .int .i64 ((m : Int) + 1)) rfl (OpQ.y (OpY.pure rfl)) ?_
        refine Run.q (v := .int .i64 (((m : Int) + 1) + 1)) rfl (OpQ.y (OpY.add rfl rfl rfl (by omega) (by omega))) ?_
        refine Run.q (v := .int .i64 (((m : Int) + 1) + 1)) rfl (OpQ.y (OpY.pure rfl)) ?_
        refine Run.done ?_
        refine Run.goal ⟨(by repeat (first | exact Same.refl _ _ | refine Same.put rfl ?_ | refine Same.over rfl rfl ?_)), m + 1, ?_, ?_, ?_, ?_⟩
        · omega
        · omega
        · exact ⟨(by first | rfl | (congr 1; omega) | simp), (by show Value.int _ _ = Value.int _ _; congr 1 <;> omega), trivial⟩
        · exact (Some'.weak (.nil _))
      · have p15 := h15; try simp only [decide_eq_true_eq, decide_eq_false_iff_not, beq_iff_eq, bne_iff_ne, beq_eq_false_iff_ne, ne_eq, gt_iff_lt, ge_iff_le, Int.not_lt, Int.not_le, bne_eq_false_iff_eq, Bool.not_eq_true', Bool.not_eq_false', Bool.and_eq_true, Bool.and_eq_false_iff, Bool.or_eq_true, Bool.or_eq_false_iff, Decidable.not_not, List.cons.injEq, and_true] at p15
        have hmn : m = n - 1 := by omega
        refine Run.exit rfl ?_
        refine Run.seq ?_
        refine Run.region ?_
        refine Run.q (v := .int .i64 (lmx xs m)) rfl (OpQ.y (OpY.pure rfl)) ?_
        refine Run.q (v := .int .i64 (lmx xs m)) rfl (OpQ.y (OpY.pure rfl)) ?_
        refine Run.done ?_
        refine Run.ret ?_
        refine ⟨.int .i64 (lmx xs m), [], Out.one rfl rfl, (Some'.weak (.nil _)), ?_⟩
        show _ = _; rw [hmn]

end Go.Proofs.Ytgghmjijjdboeaa
