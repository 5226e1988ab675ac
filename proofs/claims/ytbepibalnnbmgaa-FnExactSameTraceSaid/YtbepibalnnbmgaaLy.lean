/- Walks: the layers and the depth of a circuit. -/
import Derived.Test.YtbepibalnnbmgaaTd
import Derived.Test.YtbepibalnnbmgaaProg
set_option linter.unusedSimpArgs false
set_option linter.unusedVariables false
namespace Go.Proofs.Ytbepibalnnbmgaa
open Go Go.RowKit
namespace LyT
theorem Tagg_47 : aggOf Try.prog 47 = some 3 := by kernel_rfl
theorem Tarr_58 : arrayOf Try.prog 58 = some (5, 1) := by kernel_rfl
theorem Tcall_38 : callable Try.prog 38 = true := by kernel_rfl
theorem Tcall_41 : callable Try.prog 41 = true := by kernel_rfl
theorem Tcall_42 : callable Try.prog 42 = true := by kernel_rfl
theorem Tfo_30_1 : fieldOff Try.prog 30 1 = some 1 := by kernel_rfl
theorem Tfo_47_0 : fieldOff Try.prog 47 0 = some 0 := by kernel_rfl
theorem Tone_28 : oneOf Try.prog 28 = true := by kernel_rfl
theorem Tone_3 : oneOf Try.prog 3 = true := by kernel_rfl
theorem Tsize_3 : (Try.prog.info? 3).map (·.size) = some 1 := by kernel_rfl
theorem Tsize_47 : (Try.prog.info? 47).map (·.size) = some 3 := by kernel_rfl
theorem Tsize_58 : (Try.prog.info? 58).map (·.size) = some 5 := by kernel_rfl
theorem Tsl_28 : sliceOf Try.prog 28 = some (47, 3, 24, [.int .i64 0, .int .i64 0, .int .i64 0]) := by kernel_rfl
theorem Tsl_43 : sliceOf Try.prog 43 = some (3, 1, 8, [.int .i64 0]) := by kernel_rfl
theorem Tzero_47 : zeroOf Try.prog 47 = some [.int .i64 0, .int .i64 0, .int .i64 0] := by kernel_rfl
theorem Tzero_58 : zeroOf Try.prog 58 = some [.int .i64 0, .int .i64 0, .int .i64 0, .int .i64 0, .int .i64 0] := by kernel_rfl
end LyT
open LyT

theorem rep0 (n : Nat) : (List.replicate n [Value.int .i64 0]).flatten = ints (List.replicate n 0) := by simp [ints, List.flatten_replicate_singleton]
def outS (inc : Int → Int) (xs : List Int) (n k : Nat) : List Int := deepL inc xs k ++ List.replicate (n - k) 0
theorem outS_length {inc : Int → Int} {xs : List Int} {n k : Nat} (h : k ≤ n) : (outS inc xs n k).length = n := by simp [outS]; omega
theorem outS_n (inc : Int → Int) (xs : List Int) (n : Nat) : outS inc xs n n = deepL inc xs n := by simp [outS]
theorem outS_zero (inc : Int → Int) (xs : List Int) (n : Nat) : outS inc xs n 0 = List.replicate n 0 := by simp [outS, deepL]
theorem ix_outS {inc : Int → Int} {xs : List Int} {n k : Nat} (h : k < n) : ix (outS inc xs n k) k = 0 := by
  simp only [ix, outS, List.getD, List.getElem?_append_right (show (deepL inc xs k).length ≤ k by simp), deepL_length, Nat.sub_self]
  rw [show n - k = (n - k - 1) + 1 by omega, List.replicate_succ]; rfl
theorem ix_outS_succ {inc : Int → Int} {xs : List Int} {n k : Nat} : ix (outS inc xs n (k + 1)) k = dep inc xs k := by
  simp only [ix, outS, List.getD, List.getElem?_append_left (show k < (deepL inc xs (k + 1)).length by simp)]
  exact ix_deepL (by omega)
theorem outS_set {inc : Int → Int} {xs : List Int} {n k : Nat} (h : k < n) : (outS inc xs n k).set k (dep inc xs k) = outS inc xs n (k + 1) := by
  have e : n - k = (n - (k + 1)) + 1 := by omega
  simp only [outS, deepL_succ, e, List.replicate_succ]
  rw [List.set_append_right _ _ (by simp)]
  simp
theorem outS_set0 {inc : Int → Int} {xs : List Int} {n k : Nat} (h : k < n) : (outS inc xs n k).set k 0 = outS inc xs n k := by
  have e : n - k = (n - (k + 1)) + 1 := by omega
  simp only [outS, e, List.replicate_succ]
  rw [List.set_append_right _ _ (by simp)]
  simp
def top1 (b : Int → Int) (Q : List Int) : Int := Q.foldl (fun m q => max m (b q + 1)) 0
theorem top1_take (b : Int → Int) (Q : List Int) {k : Nat} (hk : k < Q.length) : top1 b (Q.take (k + 1)) = max (top1 b (Q.take k)) (b (ix Q k) + 1) := by
  have e : Q.take (k + 1) = Q.take k ++ [ix Q k] := by rw [List.take_add_one]; simp [ix, List.getD, hk]
  rw [e, top1, top1, List.foldl_append]; rfl
theorem top1_dep {xs : List Int} {i : Nat} : top1 (bst incL xs i) (gq xs i) = dep incL xs i := by
  have hb := bst_nonneg (fun k => (incL_range k).1) xs i
  unfold dep gq qs
  by_cases h : ix xs (i * 3) = 12
  · simp [h, top1, top, incL]
  · by_cases h2 : 9 ≤ ix xs (i * 3) ∧ ix xs (i * 3) ≤ 11
    · have h3 := hb (ix xs (i * 3 + 1)); have h4 := hb (ix xs (i * 3 + 2))
      simp only [if_neg h, if_pos h2, top1, top, incL, List.foldl_cons, List.foldl_nil]; omega
    · have h3 := hb (ix xs (i * 3 + 1))
      simp only [if_neg h, if_neg h2, top1, top, incL, List.foldl_cons, List.foldl_nil]; omega
theorem top1_bound {xs : List Int} {i m : Nat} {Q : List Int} : 0 ≤ top1 (bst incL xs i) (Q.take m) ∧ top1 (bst incL xs i) (Q.take m) ≤ i + 1 := by
  have hb := (bst_le (fun k => (incL_range k).2) xs i).1
  have key : ∀ (Q : List Int) (m : Int), 0 ≤ m → m ≤ i + 1 → 0 ≤ Q.foldl (fun m q => max m (bst incL xs i q + 1)) m ∧ Q.foldl (fun m q => max m (bst incL xs i q + 1)) m ≤ i + 1 := by
    intro Q
    induction Q with
    | nil => intro m h1 h2; exact ⟨h1, h2⟩
    | cons a Q ih => intro m h1 h2; have := hb a; exact ih _ (by show 0 ≤ max m (bst incL xs i a + 1); omega) (by show max m (bst incL xs i a + 1) ≤ _; omega)
  exact key _ 0 (by omega) (by omega)
/-- The greatest of the first m + 1 numbers. -/
def lmx (xs : List Int) : Nat → Int
  | 0 => ix xs 0
  | m + 1 => max (lmx xs m) (ix xs (m + 1))
theorem lmx_deep (xs : List Int) (n : Nat) : lmx (deepL incL xs n ++ [0]) n = mxD incL xs n := by
  have hd := dep_nonneg (fun k => (incL_range k).1) xs
  have hix : ∀ j, j < n → ix (deepL incL xs n ++ [0]) j = dep incL xs j := by
    intro j hj
    have : ix (deepL incL xs n ++ [0]) j = ix (deepL incL xs n) j := by simp only [ix, List.getD, List.getElem?_append_left (show j < (deepL incL xs n).length by simpa using hj)]
    rw [this, ix_deepL hj]
  have key : ∀ j, j < n → lmx (deepL incL xs n ++ [0]) j = mxD incL xs (j + 1) := by
    intro j
    induction j with
    | zero => intro h; have := hd 0; simp only [lmx, mxD, hix 0 h]; omega
    | succ j ih => intro h; rw [lmx, ih (by omega), hix (j + 1) h]; rfl
  cases n with
  | zero => simp [lmx, deepL, ix, mxD]
  | succ n =>
    have e : ix (deepL incL xs (n + 1) ++ [0]) (n + 1) = 0 := by
      simp only [ix, List.getD, List.getElem?_append_right (show (deepL incL xs (n + 1)).length ≤ n + 1 by simp), deepL_length, Nat.sub_self]; rfl
    have := (mxD_range incL_range xs (n + 1)).1
    rw [lmx, key n (by omega), e]; omega

set_option maxHeartbeats 1000000 in
set_option maxRecDepth 20000 in
theorem layers_spec {N : Int} {va : Value} {n : Nat} {xs : List Int} {w : World} (hok : circOk N xs n = true) (ha : Sl w va 3 n (ints xs)) : Calls Try.prog 22 #[.agg #[.int .i64 N, va]] w (Post No w fun v H => H = [.own v 3 1 n (ints (deepL incL xs n))]) := by
  have hxl := ha.len
  have hn := ha.le
  obtain ⟨A, c, rfl, _, _⟩ := ha.form0
  have hi1 := incL_range
  have h400 := circOk_n hok
  refine enter (n := 60) (args := [.agg #[.int .i64 N, .slice A n c]]) Try.func22 rfl rfl (St.empty _ _) ?_
  refine Run.seq ?_
  refine Run.region ?_
  refine Run.step rfl (OpStep.box (us := [.int .i64 N, .slice A n c]) rfl fun b1 => ?_)
  refine Run.q (v := .slice none 0 0) rfl (OpQ.y (OpY.pure rfl)) ?_
  refine Run.done ?_
  refine Run.seq ?_
  refine Run.region ?_
  refine Run.q (v := .pointer (some ⟨b1, 1, none⟩)) rfl (OpQ.y (OpY.fieldAddr Tfo_30_1 rfl rfl)) ?_
  refine Run.q (v := .slice A n c) rfl (OpQ.y (OpY.load1 Tone_28 rfl (Cells.blk (.head _) ⟨rfl, trivial⟩))) ?_
  refine Run.q (v := .int .i64 (((n : Nat) : Int))) rfl (OpQ.y (OpY.len Tsl_28 rfl)) ?_
  refine Run.step rfl (OpStep.makeSlice (n := n) Tsl_43 rfl (by decide) (by first | rfl | omega) (by first | rfl | omega) (by omega) (by simp only [maxLen]; omega) fun b2 => ?_)
  refine Run.q (v := .agg #[.int .i64 0, .int .i64 0, .int .i64 0, .int .i64 0, .int .i64 0]) rfl (OpQ.y (OpY.build (cs := [.int .i64 0, .int .i64 0, .int .i64 0, .int .i64 0, .int .i64 0]) (by kernel_rfl))) ?_
  refine Run.step rfl (OpStep.alloc (zs := [.int .i64 0, .int .i64 0, .int .i64 0, .int .i64 0, .int .i64 0]) Tzero_58 fun b3 => ?_)
  refine Run.q (v := .slice (some ⟨b2, 0, none⟩) n n) rfl (OpQ.y (OpY.pure rfl)) ?_
  refine Run.step rfl (OpStep.storeAll (us := [.int .i64 0, .int .i64 0, .int .i64 0, .int .i64 0, .int .i64 0]) Tsize_58 rfl rfl rfl (.here _) rfl ?_)
  refine Run.done ?_
  refine Run.seq ?_
  refine Run.seq ?_
  refine Run.region ?_
  refine Run.q (v := .pointer (some ⟨b1, 1, none⟩)) rfl (OpQ.y (OpY.fieldAddr Tfo_30_1 rfl rfl)) ?_
  refine Run.q (v := .slice A n c) rfl (OpQ.y (OpY.load1 Tone_28 rfl (Cells.blk (.tail _ (.tail _ (List.Mem.head _))) ⟨rfl, trivial⟩))) ?_
  refine Run.q (v := .int .i64 (((n : Nat) : Int))) rfl (OpQ.y (OpY.len Tsl_28 rfl)) ?_
  refine Run.q (v := .int .i64 0) rfl (OpQ.y (OpY.pure rfl)) ?_
  refine Run.done ?_
  refine Run.block ?_
  refine Run.loop (ι := Nat) [5, 6, 8, 10, 19, 20, 21, 22, 23, 24, 25, 26, 27, 28, 29, 30, 31, 32, 33, 34, 35, 36, 37, 38, 39, 40, 41, 42, 43, 44, 45, 46, 47, 48, 49, 50, 51, 52, 53, 54, 55, 56, 57, 58] (fun k => [(19, .int .i64 (((k : Nat) : Int)))]) (fun k => [.blk b3 58 (ints (bstL incL xs k)), .own (.slice (some ⟨b2, 0, none⟩) n n) 3 1 n (ints (outS incL xs n k)), .blk b1 30 [.int .i64 N, .slice A n c]]) (fun k => k ≤ n ∧ (True)) (fun k => n - k) 0 ?_ ?_ ?_ ?_
  · exact ⟨Nat.zero_le _, by first | trivial | (intro i hi; omega)⟩
  · exact ⟨rfl, trivial⟩
  · exact (Some'.weak (.takeEq (by first | rw [hB] | (rw [rep0, outS_zero]) | rfl) (.takeEq (by first | rw [hB] | (rw [rep0, outS_zero]) | rfl) (.take (.nil _)))))
  · rintro k fr hinv
    show Run _ _ (over _ _ [(19, .int .i64 (((k : Nat) : Int)))] fr) [.blk b3 58 (ints (bstL incL xs k)), .own (.slice (some ⟨b2, 0, none⟩) n n) 3 1 n (ints (outS incL xs n k)), .blk b1 30 [.int .i64 N, .slice A n c]]
    try dsimp only at hinv
    refine Run.seq ?_
    refine Run.region ?_
    refine Run.q (v := .bool (decide ((((k : Nat) : Int)) < (((n : Nat) : Int))))) rfl (OpQ.y (OpY.pure rfl)) ?_
    refine Run.done ?_
    refine Run.seq ?_
    refine Run.cond (b := decide ((((k : Nat) : Int)) < (((n : Nat) : Int)))) rfl (fun h20 => ?_) (fun h20 => ?_)
    · have p20 := h20; try simp only [decide_eq_true_eq, decide_eq_false_iff_not, beq_iff_eq, bne_iff_ne, beq_eq_false_iff_ne, ne_eq, gt_iff_lt, ge_iff_le, Int.not_lt, Int.not_le, bne_eq_false_iff_eq, Bool.not_eq_true', Bool.not_eq_false', Bool.and_eq_true, Bool.and_eq_false_iff, Bool.or_eq_true, Bool.or_eq_false_iff, Decidable.not_not, List.cons.injEq, and_true] at p20
      have hltk : k < n := by omega
      obtain ⟨b, o, rfl⟩ := ha.opn (by omega)
      have hgk := gate_gq hok hltk
      have hqle : (gq xs k).length ≤ 2 := qs_le _ _ _
      have hbl := bst_le (fun k => (hi1 k).2) xs k
      have hol := outS_length (inc := incL) (xs := xs) (Nat.le_of_lt hltk)
      have hol1 := outS_length (inc := incL) (xs := xs) (show k + 1 ≤ n from hltk)
      have hO0 : outS incL xs n k = (outS incL xs n k).set k (top1 (bst incL xs k) ((gq xs k).take 0)) := (outS_set0 hltk).symm
      refine Run.skip ?_
      refine Run.seq ?_
      refine Run.block ?_
      refine Run.seq ?_
      refine Run.region ?_
      refine Run.q (v := .int .i64 (((k : Nat) : Int))) rfl (OpQ.y (OpY.pure rfl)) ?_
      refine Run.q (v := .pointer (some ⟨b, o + k * 3, none⟩)) rfl (OpQ.y (OpY.index (kk := k) Tsl_28 rfl rfl (by omega) (by omega) (by first | rfl | omega))) ?_
      refine Run.q (v := .agg #[.int .i64 (ix xs (k * 3)), .int .i64 (ix xs (k * 3 + 1)), .int .i64 (ix xs (k * 3 + 2))]) rfl (OpQ.y (OpY.loadN (cs := [.int .i64 (ix xs (k * 3)), .int .i64 (ix xs (k * 3 + 1)), .int .i64 (ix xs (k * 3 + 2))]) Tagg_47 rfl (Cells.arg (k := k * 3) ha rfl (by omega) (pre3 (by omega))))) ?_
      refine Run.step rfl (OpStep.alloc (zs := [.int .i64 0, .int .i64 0, .int .i64 0]) Tzero_47 fun b4 => ?_)
      refine Run.q (v := .int .i64 (((k : Nat) : Int))) rfl (OpQ.y (OpY.pure rfl)) ?_
      refine Run.step rfl (OpStep.storeAll (us := [.int .i64 (ix xs (k * 3)), .int .i64 (ix xs (k * 3 + 1)), .int .i64 (ix xs (k * 3 + 2))]) Tsize_47 rfl rfl rfl (.here _) rfl ?_)
      refine Run.done ?_
      refine Run.seq ?_
      refine Run.seq ?_
      refine Run.region ?_
      refine Run.q (v := .agg #[.int .i64 (ix xs (k * 3)), .int .i64 (ix xs (k * 3 + 1)), .int .i64 (ix xs (k * 3 + 2))]) rfl (OpQ.y (OpY.loadN (cs := [.int .i64 (ix xs (k * 3)), .int .i64 (ix xs (k * 3 + 1)), .int .i64 (ix xs (k * 3 + 2))]) Tagg_47 rfl (Cells.blk (.head _) ⟨rfl, rfl, rfl, trivial⟩))) ?_
      refine Run.step rfl (OpStep.call (vs := [.agg #[.int .i64 (ix xs (k * 3)), .int .i64 (ix xs (k * 3 + 1)), .int .i64 (ix xs (k * 3 + 2))]]) (caps := []) Tcall_38 rfl rfl (fun w hs => qubitsOf_spec _ _ _ w) ?_)
      rintro u1 _ rfl
      show Run _ _ (putF _ _ _ u1) [.own u1 3 1 ((gq xs k).length) (ints (gq xs k)), .blk b4 47 [.int .i64 (ix xs (k * 3)), .int .i64 (ix xs (k * 3 + 1)), .int .i64 (ix xs (k * 3 + 2))], .blk b3 58 (ints (bstL incL xs k)), .own (.slice (some ⟨b2, 0, none⟩) n n) 3 1 n (ints (outS incL xs n k)), .blk b1 30 [.int .i64 N, .slice (some ⟨b, o, none⟩) n c]]
      refine Run.formOwn (.head _) (fun A_u11 c_u11 hv hcapc_u11 hmaxc_u11 => ?_) (fun _ _ _ => ⟨nofun, nofun, nofun⟩)
      subst hv
      refine Run.q (v := .int .i64 ((((gq xs k).length : Nat) : Int))) rfl (OpQ.y (OpY.len Tsl_43 rfl)) ?_
      refine Run.q (v := .int .i64 0) rfl (OpQ.y (OpY.pure rfl)) ?_
      refine Run.done ?_
      refine Run.block ?_
      refine Run.loop (ι := Nat) [8, 27, 28, 29, 30, 31, 32, 33, 34, 35, 36, 37, 38, 39, 40, 41, 42, 43] (fun m => [(27, .int .i64 (((m : Nat) : Int)))]) (fun m => [.own (.slice A_u11 ((gq xs k).length) c_u11) 3 1 ((gq xs k).length) (ints (gq xs k)), .blk b4 47 [.int .i64 (ix xs (k * 3)), .int .i64 (ix xs (k * 3 + 1)), .int .i64 (ix xs (k * 3 + 2))], .blk b3 58 (ints (bstL incL xs k)), .own (.slice (some ⟨b2, 0, none⟩) n n) 3 1 n (ints ((outS incL xs n k).set k (top1 (bst incL xs k) ((gq xs k).take m)))), .blk b1 30 [.int .i64 N, .slice (some ⟨b, o, none⟩) n c]]) (fun m => m ≤ (gq xs k).length ∧ (True)) (fun m => (gq xs k).length - m) 0 ?_ ?_ ?_ ?_
      · exact ⟨Nat.zero_le _, by first | trivial | (intro i hi; omega)⟩
      · exact ⟨rfl, trivial⟩
      · exact (Some'.weak (.take (.take (.take (.takeEq (by first | exact congrArg (fun z => Res.own _ _ _ _ (ints z))  hO0 | exact congrArg (fun z => Res.own _ _ _ _ (ints z))  hS | rfl) (.take (.nil _)))))))
      · rintro m fr hinv
        show Run _ _ (over _ _ [(27, .int .i64 (((m : Nat) : Int)))] fr) [.own (.slice A_u11 ((gq xs k).length) c_u11) 3 1 ((gq xs k).length) (ints (gq xs k)), .blk b4 47 [.int .i64 (ix xs (k * 3)), .int .i64 (ix xs (k * 3 + 1)), .int .i64 (ix xs (k * 3 + 2))], .blk b3 58 (ints (bstL incL xs k)), .own (.slice (some ⟨b2, 0, none⟩) n n) 3 1 n (ints ((outS incL xs n k).set k (top1 (bst incL xs k) ((gq xs k).take m)))), .blk b1 30 [.int .i64 N, .slice (some ⟨b, o, none⟩) n c]]
        try dsimp only at hinv
        refine Run.seq ?_
        refine Run.region ?_
        refine Run.q (v := .bool (decide ((((m : Nat) : Int)) < ((((gq xs k).length : Nat) : Int))))) rfl (OpQ.y (OpY.pure rfl)) ?_
        refine Run.done ?_
        refine Run.seq ?_
        refine Run.cond (b := decide ((((m : Nat) : Int)) < ((((gq xs k).length : Nat) : Int)))) rfl (fun h28 => ?_) (fun h28 => ?_)
        · have p28 := h28; try simp only [decide_eq_true_eq, decide_eq_false_iff_not, beq_iff_eq, bne_iff_ne, beq_eq_false_iff_ne, ne_eq, gt_iff_lt, ge_iff_le, Int.not_lt, Int.not_le, bne_eq_false_iff_eq, Bool.not_eq_true', Bool.not_eq_false', Bool.and_eq_true, Bool.and_eq_false_iff, Bool.or_eq_true, Bool.or_eq_false_iff, Decidable.not_not, List.cons.injEq, and_true] at p28
          have hltm : m < (gq xs k).length := by omega
          refine Run.openOwn (.head _) (by omega) (fun g2 cg2 hvg2 hcapg2 _ => ?_) (fun _ _ _ => ⟨nofun, nofun, nofun⟩)
          injection hvg2 with hAg2 _ hcg2; subst hAg2; subst hcg2
          have hq5 := hgk _ (ix_mem hltm)
          have htb := top1_bound (xs := xs) (i := k) (m := m) (Q := gq xs k)
          have hsl : ((outS incL xs n k).set k (top1 (bst incL xs k) ((gq xs k).take m))).length = n := by rw [List.length_set, hol]
          have hxk : ix ((outS incL xs n k).set k (top1 (bst incL xs k) ((gq xs k).take m))) (k) = top1 (bst incL xs k) ((gq xs k).take m) := by rw [ix_set (by omega)]; simp
          have hbq := hbl.1 (ix (gq xs k) m)
          have hbx := ix_bstL (inc := incL) (xs := xs) (i := k) hq5.1 hq5.2
          have hbn := bst_nonneg (fun k => (hi1 k).1) xs k (ix (gq xs k) m)
          refine Run.skip ?_
          refine Run.seq ?_
          refine Run.block ?_
          refine Run.seq ?_
          refine Run.region ?_
          refine Run.q (v := .pointer (some ⟨g2, m, none⟩)) rfl (OpQ.y (OpY.index (kk := m) Tsl_43 rfl rfl (by omega) (by omega) (by first | rfl | omega))) ?_
          refine Run.q (v := .int .i64 (ix (gq xs k) (m))) rfl (OpQ.y (OpY.load1 Tone_3 rfl (Cells.own0 (.head _) (pre1 (by first | omega | (simp; omega)))))) ?_
          refine Run.q (v := .int .i64 (ix (gq xs k) (m))) rfl (OpQ.y (OpY.pure rfl)) ?_
          refine Run.done ?_
          refine Run.lastly [12] (by kernel_rfl) ?_
          refine DL.takeP (i := 0) (v := .slice (some ⟨b2, 0, none⟩) n n) rfl (by kernel_rfl) (by kernel_rfl) (by kernel_rfl) (fun _ _ _ h => h) rfl (fun _ => OpY.pure rfl) ?_
          refine DL.takeP (i := 1) (v := .int .i64 (((k : Nat) : Int))) rfl (by kernel_rfl) (by kernel_rfl) (by kernel_rfl) (fun _ _ _ h => h) rfl (fun _ => OpY.pure rfl) ?_
          refine DL.takeP (i := 2) (v := .slice (some ⟨b2, 0, none⟩) n n) rfl (by kernel_rfl) (by kernel_rfl) (by kernel_rfl) (fun _ _ _ h => h) rfl (fun _ => OpY.pure rfl) ?_
          refine DL.takeP (i := 3) (v := .int .i64 (((k : Nat) : Int))) rfl (by kernel_rfl) (by kernel_rfl) (by kernel_rfl) (fun _ _ _ h => h) rfl (fun _ => OpY.pure rfl) ?_
          refine DL.takeP (i := 4) (v := .pointer (some ⟨b2, k, none⟩)) rfl (by kernel_rfl) (by kernel_rfl) (by kernel_rfl) (fun _ _ _ h => h) rfl (fun _ => OpY.index (kk := k) Tsl_43 rfl rfl (by omega) (by omega) (by first | rfl | omega)) ?_
          refine DL.take (i := 5) (v := .int .i64 (ix ((outS incL xs n k).set k (top1 (bst incL xs k) ((gq xs k).take m))) (k))) rfl (by kernel_rfl) (by kernel_rfl) (by kernel_rfl) (by kernel_rfl) (fun _ _ _ h => h) (Some'.weak (.take (.take (.take (.take (.take (.nil _))))))) rfl (OpY.load1 Tone_3 rfl (Cells.own0 (.tail _ (.tail _ (.tail _ (List.Mem.head _)))) (pre1 (by first | omega | (simp; omega))))) ?_
          refine DL.takeP (i := 6) (v := .int .i64 (ix (gq xs k) (m))) rfl (by kernel_rfl) (by kernel_rfl) (by kernel_rfl) (fun _ _ _ h => h) rfl (fun _ => OpY.pure rfl) ?_
          refine DL.takeP (i := 7) (v := .pointer (some ⟨b3, (ix (gq xs k) (m)).toNat, none⟩)) rfl (by kernel_rfl) (by kernel_rfl) (by kernel_rfl) (fun _ _ _ h => h) rfl (fun _ => OpY.indexArr (kk := (ix (gq xs k) (m)).toNat) Tarr_58 rfl rfl (by omega) (by omega) (by first | rfl | omega)) ?_
          refine DL.take (i := 8) (v := .int .i64 (ix (bstL incL xs k) ((ix (gq xs k) (m)).toNat))) rfl (by kernel_rfl) (by kernel_rfl) (by kernel_rfl) (by kernel_rfl) (fun _ _ _ h => h) (Some'.weak (.take (.take (.take (.take (.take (.nil _))))))) rfl (OpY.load1 Tone_3 rfl (Cells.blk (.tail _ (.tail _ (List.Mem.head _))) (pre1 (by first | omega | (simp; omega))))) ?_
          refine DL.takeP (i := 9) (v := .int .i64 ((ix (bstL incL xs k) ((ix (gq xs k) (m)).toNat)) + 1)) rfl (by kernel_rfl) (by kernel_rfl) (by kernel_rfl) (fun _ _ _ h => h) rfl (fun _ => OpY.add rfl rfl rfl (by omega) (by omega)) ?_
          refine DL.takeP (i := 10) (v := .int .i64 (max (ix ((outS incL xs n k).set k (top1 (bst incL xs k) ((gq xs k).take m))) (k)) ((ix (bstL incL xs k) ((ix (gq xs k) (m)).toNat)) + 1))) rfl (by kernel_rfl) (by kernel_rfl) (by kernel_rfl) (fun _ _ _ h => h) rfl (fun _ => OpY.max rfl rfl) ?_
          refine DL.takeP (i := 11) (v := .pointer (some ⟨b2, k, none⟩)) rfl (by kernel_rfl) (by kernel_rfl) (by kernel_rfl) (fun _ _ _ h => h) rfl (fun _ => OpY.index (kk := k) Tsl_43 rfl rfl (by omega) (by omega) (by first | rfl | omega)) ?_
          refine DL.step (i := 12) (by kernel_rfl) (by kernel_rfl) rfl rfl (OpStep.storeOwnInt (o := k) (a := max (ix ((outS incL xs n k).set k (top1 (bst incL xs k) ((gq xs k).take m))) (k)) ((ix (bstL incL xs k) ((ix (gq xs k) (m)).toNat)) + 1)) Tsize_3 rfl rfl (.there _ (.there _ (.there _ (.here _)))) (by first | omega | (simp; omega)) ?_)
          refine DL.done (by kernel_rfl) ?_
          refine Run.blockEnd ?_
          refine Run.region ?_
          refine Run.q (v := .int .i64 ((((m : Nat) : Int)) + 1)) rfl (OpQ.y (OpY.add rfl rfl rfl (by omega) (by omega))) ?_
          refine Run.q (v := .int .i64 ((((m : Nat) : Int)) + 1)) rfl (OpQ.y (OpY.pure rfl)) ?_
          refine Run.done ?_
          have hS : ((outS incL xs n k).set k (top1 (bst incL xs k) ((gq xs k).take m))).set k (max (ix ((outS incL xs n k).set k (top1 (bst incL xs k) ((gq xs k).take m))) (k)) (ix (bstL incL xs k) ((ix (gq xs k) (m)).toNat) + 1)) = (outS incL xs n k).set k (top1 (bst incL xs k) ((gq xs k).take (m + 1))) := by
            rw [hxk, hbx, List.set_set, top1_take _ _ hltm]
          refine Run.goal ⟨(by repeat (first | exact Same.refl _ _ | refine Same.put rfl ?_ | refine Same.over rfl rfl ?_)), m + 1, ?_, ?_, ?_, ?_⟩
          · refine ⟨by omega, ?_⟩
            trivial
          · omega
          · exact ⟨(by first | rfl | (congr 1; omega) | simp), trivial⟩
          · exact (Some'.weak (.takeEq (by first | exact congrArg (fun z => Res.own _ _ _ _ (ints z))  hO0 | exact congrArg (fun z => Res.own _ _ _ _ (ints z))  hS | rfl) (.take (.takeEq (by first | exact congrArg (fun z => Res.own _ _ _ _ (ints z))  hO0 | exact congrArg (fun z => Res.own _ _ _ _ (ints z))  hS | rfl) (.takeEq (by first | exact congrArg (fun z => Res.own _ _ _ _ (ints z))  hO0 | exact congrArg (fun z => Res.own _ _ _ _ (ints z))  hS | rfl) (.take (.nil _)))))))
        · have p28 := h28; try simp only [decide_eq_true_eq, decide_eq_false_iff_not, beq_iff_eq, bne_iff_ne, beq_eq_false_iff_ne, ne_eq, gt_iff_lt, ge_iff_le, Int.not_lt, Int.not_le, bne_eq_false_iff_eq, Bool.not_eq_true', Bool.not_eq_false', Bool.and_eq_true, Bool.and_eq_false_iff, Bool.or_eq_true, Bool.or_eq_false_iff, Decidable.not_not, List.cons.injEq, and_true] at p28
          have hknm : m = (gq xs k).length := by omega
          have hO1 : (outS incL xs n k).set k (top1 (bst incL xs k) ((gq xs k).take m)) = outS incL xs n (k + 1) := by rw [hknm, List.take_length, top1_dep]; exact outS_set hltk
          refine Run.exit rfl ?_
          refine Run.seq ?_
          refine Run.region ?_
          refine Run.q (v := .agg #[.int .i64 (ix xs (k * 3)), .int .i64 (ix xs (k * 3 + 1)), .int .i64 (ix xs (k * 3 + 2))]) rfl (OpQ.y (OpY.loadN (cs := [.int .i64 (ix xs (k * 3)), .int .i64 (ix xs (k * 3 + 1)), .int .i64 (ix xs (k * 3 + 2))]) Tagg_47 rfl (Cells.blk (.tail _ (List.Mem.head _)) ⟨rfl, rfl, rfl, trivial⟩))) ?_
          refine Run.step rfl (OpStep.call (vs := [.agg #[.int .i64 (ix xs (k * 3)), .int .i64 (ix xs (k * 3 + 1)), .int .i64 (ix xs (k * 3 + 2))]]) (caps := []) Tcall_38 rfl rfl (fun w hs => qubitsOf_spec _ _ _ w) ?_)
          rintro u2 _ rfl
          show Run _ _ (putF _ _ _ u2) [.own u2 3 1 ((gq xs k).length) (ints (gq xs k)), .own (.slice A_u11 ((gq xs k).length) c_u11) 3 1 ((gq xs k).length) (ints (gq xs k)), .blk b4 47 [.int .i64 (ix xs (k * 3)), .int .i64 (ix xs (k * 3 + 1)), .int .i64 (ix xs (k * 3 + 2))], .blk b3 58 (ints (bstL incL xs k)), .own (.slice (some ⟨b2, 0, none⟩) n n) 3 1 n (ints ((outS incL xs n k).set k (top1 (bst incL xs k) ((gq xs k).take m)))), .blk b1 30 [.int .i64 N, .slice (some ⟨b, o, none⟩) n c]]
          refine Run.formOwn (.head _) (fun A_u21 c_u21 hv hcapc_u21 hmaxc_u21 => ?_) (fun _ _ _ => ⟨nofun, nofun, nofun⟩)
          subst hv
          refine Run.q (v := .int .i64 ((((gq xs k).length : Nat) : Int))) rfl (OpQ.y (OpY.len Tsl_43 rfl)) ?_
          refine Run.q (v := .int .i64 0) rfl (OpQ.y (OpY.pure rfl)) ?_
          refine Run.done ?_
          refine Run.block ?_
          refine Run.loop (ι := Nat) [10, 47, 48, 49, 50, 51, 52, 53, 54, 55, 56, 57] (fun m => [(47, .int .i64 (((m : Nat) : Int)))]) (fun m => [.own (.slice A_u21 ((gq xs k).length) c_u21) 3 1 ((gq xs k).length) (ints (gq xs k)), .own (.slice A_u11 ((gq xs k).length) c_u11) 3 1 ((gq xs k).length) (ints (gq xs k)), .blk b4 47 [.int .i64 (ix xs (k * 3)), .int .i64 (ix xs (k * 3 + 1)), .int .i64 (ix xs (k * 3 + 2))], .blk b3 58 (ints (putQ (bstL incL xs k) (dep incL xs k) ((gq xs k).take m))), .own (.slice (some ⟨b2, 0, none⟩) n n) 3 1 n (ints (outS incL xs n (k + 1))), .blk b1 30 [.int .i64 N, .slice (some ⟨b, o, none⟩) n c]]) (fun m => m ≤ (gq xs k).length ∧ (True)) (fun m => (gq xs k).length - m) 0 ?_ ?_ ?_ ?_
          · exact ⟨Nat.zero_le _, by first | trivial | (intro i hi; omega)⟩
          · exact ⟨rfl, trivial⟩
          · exact (Some'.weak (.take (.take (.take (.takeEq (by first | exact congrArg (fun z => Res.own _ _ _ _ (ints z))  hO1 | (rw [ix_outS_succ, putQ_take _ _ _ hltm]; done) | rfl) (.takeEq (by first | exact congrArg (fun z => Res.own _ _ _ _ (ints z))  hO1 | (rw [ix_outS_succ, putQ_take _ _ _ hltm]; done) | rfl) (.take (.nil _))))))))
          · rintro m fr hinv
            show Run _ _ (over _ _ [(47, .int .i64 (((m : Nat) : Int)))] fr) [.own (.slice A_u21 ((gq xs k).length) c_u21) 3 1 ((gq xs k).length) (ints (gq xs k)), .own (.slice A_u11 ((gq xs k).length) c_u11) 3 1 ((gq xs k).length) (ints (gq xs k)), .blk b4 47 [.int .i64 (ix xs (k * 3)), .int .i64 (ix xs (k * 3 + 1)), .int .i64 (ix xs (k * 3 + 2))], .blk b3 58 (ints (putQ (bstL incL xs k) (dep incL xs k) ((gq xs k).take m))), .own (.slice (some ⟨b2, 0, none⟩) n n) 3 1 n (ints (outS incL xs n (k + 1))), .blk b1 30 [.int .i64 N, .slice (some ⟨b, o, none⟩) n c]]
            try dsimp only at hinv
            refine Run.seq ?_
            refine Run.region ?_
            refine Run.q (v := .bool (decide ((((m : Nat) : Int)) < ((((gq xs k).length : Nat) : Int))))) rfl (OpQ.y (OpY.pure rfl)) ?_
            refine Run.done ?_
            refine Run.seq ?_
            refine Run.cond (b := decide ((((m : Nat) : Int)) < ((((gq xs k).length : Nat) : Int)))) rfl (fun h48 => ?_) (fun h48 => ?_)
            · have p48 := h48; try simp only [decide_eq_true_eq, decide_eq_false_iff_not, beq_iff_eq, bne_iff_ne, beq_eq_false_iff_ne, ne_eq, gt_iff_lt, ge_iff_le, Int.not_lt, Int.not_le, bne_eq_false_iff_eq, Bool.not_eq_true', Bool.not_eq_false', Bool.and_eq_true, Bool.and_eq_false_iff, Bool.or_eq_true, Bool.or_eq_false_iff, Decidable.not_not, List.cons.injEq, and_true] at p48
              have hltm : m < (gq xs k).length := by omega
              refine Run.openOwn (.head _) (by omega) (fun g3 cg3 hvg3 hcapg3 _ => ?_) (fun _ _ _ => ⟨nofun, nofun, nofun⟩)
              injection hvg3 with hAg3 _ hcg3; subst hAg3; subst hcg3
              have hq5 := hgk _ (ix_mem hltm)
              refine Run.skip ?_
              refine Run.seq ?_
              refine Run.block ?_
              refine Run.seq ?_
              refine Run.region ?_
              refine Run.q (v := .pointer (some ⟨g3, m, none⟩)) rfl (OpQ.y (OpY.index (kk := m) Tsl_43 rfl rfl (by omega) (by omega) (by first | rfl | omega))) ?_
              refine Run.q (v := .int .i64 (ix (gq xs k) (m))) rfl (OpQ.y (OpY.load1 Tone_3 rfl (Cells.own0 (.head _) (pre1 (by first | omega | (simp; omega)))))) ?_
              refine Run.q (v := .int .i64 (ix (gq xs k) (m))) rfl (OpQ.y (OpY.pure rfl)) ?_
              refine Run.done ?_
              refine Run.region ?_
              refine Run.q (v := .int .i64 (ix (gq xs k) (m))) rfl (OpQ.y (OpY.pure rfl)) ?_
              refine Run.q (v := .slice (some ⟨b2, 0, none⟩) n n) rfl (OpQ.y (OpY.pure rfl)) ?_
              refine Run.q (v := .int .i64 (((k : Nat) : Int))) rfl (OpQ.y (OpY.pure rfl)) ?_
              refine Run.q (v := .pointer (some ⟨b2, k, none⟩)) rfl (OpQ.y (OpY.index (kk := k) Tsl_43 rfl rfl (by omega) (by omega) (by first | rfl | omega))) ?_
              refine Run.q (v := .int .i64 (ix (outS incL xs n (k + 1)) (k))) rfl (OpQ.y (OpY.load1 Tone_3 rfl (Cells.own0 (.tail _ (.tail _ (.tail _ (.tail _ (List.Mem.head _))))) (pre1 (by first | omega | (simp; omega)))))) ?_
              refine Run.q (v := .pointer (some ⟨b3, (ix (gq xs k) (m)).toNat, none⟩)) rfl (OpQ.y (OpY.indexArr (kk := (ix (gq xs k) (m)).toNat) Tarr_58 rfl rfl (by omega) (by omega) (by first | rfl | omega))) ?_
              refine Run.step rfl (OpStep.storeInts (o := (ix (gq xs k) (m)).toNat) (a := ix (outS incL xs n (k + 1)) (k)) Tsize_3 rfl rfl (.there _ (.there _ (.there _ (.here _)))) (by first | omega | (simp; omega)) ?_)
              refine Run.done ?_
              refine Run.blockEnd ?_
              refine Run.region ?_
              refine Run.q (v := .int .i64 ((((m : Nat) : Int)) + 1)) rfl (OpQ.y (OpY.add rfl rfl rfl (by omega) (by omega))) ?_
              refine Run.q (v := .int .i64 ((((m : Nat) : Int)) + 1)) rfl (OpQ.y (OpY.pure rfl)) ?_
              refine Run.done ?_
              refine Run.goal ⟨(by repeat (first | exact Same.refl _ _ | refine Same.put rfl ?_ | refine Same.over rfl rfl ?_)), m + 1, ?_, ?_, ?_, ?_⟩
              · refine ⟨by omega, ?_⟩
                trivial
              · omega
              · exact ⟨(by first | rfl | (congr 1; omega) | simp), trivial⟩
              · exact (Some'.weak (.takeEq (by first | exact congrArg (fun z => Res.own _ _ _ _ (ints z))  hO1 | (rw [ix_outS_succ, putQ_take _ _ _ hltm]; done) | rfl) (.takeEq (by first | exact congrArg (fun z => Res.own _ _ _ _ (ints z))  hO1 | (rw [ix_outS_succ, putQ_take _ _ _ hltm]; done) | rfl) (.take (.takeEq (by first | exact congrArg (fun z => Res.own _ _ _ _ (ints z))  hO1 | (rw [ix_outS_succ, putQ_take _ _ _ hltm]; done) | rfl) (.takeEq (by first | exact congrArg (fun z => Res.own _ _ _ _ (ints z))  hO1 | (rw [ix_outS_succ, putQ_take _ _ _ hltm]; done) | rfl) (.take (.nil _))))))))
            · have p48 := h48; try simp only [decide_eq_true_eq, decide_eq_false_iff_not, beq_iff_eq, bne_iff_ne, beq_eq_false_iff_ne, ne_eq, gt_iff_lt, ge_iff_le, Int.not_lt, Int.not_le, bne_eq_false_iff_eq, Bool.not_eq_true', Bool.not_eq_false', Bool.and_eq_true, Bool.and_eq_false_iff, Bool.or_eq_true, Bool.or_eq_false_iff, Decidable.not_not, List.cons.injEq, and_true] at p48
              have hknm : m = (gq xs k).length := by omega
              have hB : putQ (bstL incL xs k) (dep incL xs k) ((gq xs k).take m) = bstL incL xs (k + 1) := by rw [hknm, List.take_length]; exact putQ_bst hgk
              refine Run.exit rfl ?_
              refine Run.blockEnd ?_
              refine Run.region ?_
              refine Run.q (v := .int .i64 ((((k : Nat) : Int)) + 1)) rfl (OpQ.y (OpY.add rfl rfl rfl (by omega) (by omega))) ?_
              refine Run.q (v := .int .i64 ((((k : Nat) : Int)) + 1)) rfl (OpQ.y (OpY.pure rfl)) ?_
              refine Run.done ?_
              refine Run.goal ⟨(by repeat (first | exact Same.refl _ _ | refine Same.put rfl ?_ | refine Same.over rfl rfl ?_)), k + 1, ?_, ?_, ?_, ?_⟩
              · refine ⟨by omega, ?_⟩
                trivial
              · omega
              · exact ⟨(by first | rfl | (congr 1; omega) | simp), trivial⟩
              · exact (Some'.weak (.skip (.skip (.skip (.takeEq (by first | rw [hB] | (rw [rep0, outS_zero]) | rfl) (.takeEq (by first | rw [hB] | (rw [rep0, outS_zero]) | rfl) (.takeEq (by first | rw [hB] | (rw [rep0, outS_zero]) | rfl) (.nil _))))))))
    · have p20 := h20; try simp only [decide_eq_true_eq, decide_eq_false_iff_not, beq_iff_eq, bne_iff_ne, beq_eq_false_iff_ne, ne_eq, gt_iff_lt, ge_iff_le, Int.not_lt, Int.not_le, bne_eq_false_iff_eq, Bool.not_eq_true', Bool.not_eq_false', Bool.and_eq_true, Bool.and_eq_false_iff, Bool.or_eq_true, Bool.or_eq_false_iff, Decidable.not_not, List.cons.injEq, and_true] at p20
      have hknk : k = n := by omega
      refine Run.exit rfl ?_
      refine Run.seq ?_
      refine Run.region ?_
      refine Run.q (v := .slice (some ⟨b2, 0, none⟩) n n) rfl (OpQ.y (OpY.pure rfl)) ?_
      refine Run.q (v := .slice (some ⟨b2, 0, none⟩) n n) rfl (OpQ.y (OpY.pure rfl)) ?_
      refine Run.done ?_
      refine Run.ret ?_
      refine ⟨.slice (some ⟨b2, 0, none⟩) n n, [.own (.slice (some ⟨b2, 0, none⟩) n n) 3 1 n (ints (deepL incL xs n))], Out.one rfl rfl, (Some'.weak (.skip (.takeEq (by rw [hknk, outS_n]) (.nil _)))), ?_⟩
      rfl

set_option maxHeartbeats 1000000 in
set_option maxRecDepth 20000 in
theorem l24Layers_spec {N : Int} {va : Value} {n : Nat} {xs : List Int} {w : World} (hok : circOk N xs n = true) (ha : Sl w va 3 n (ints xs)) : Calls Try.prog 29 #[.agg #[.int .i64 N, va]] w (Post No w fun v H => H = [.own v 3 1 n (ints (deepL incL xs n))]) := by
  have hxl := ha.len
  have hn := ha.le
  obtain ⟨A, c, rfl, _, _⟩ := ha.form0
  have hi1 := incL_range
  have h400 := circOk_n hok
  refine enter (n := 48) (args := [.agg #[.int .i64 N, .slice A n c]]) Try.func29 rfl rfl (St.empty _ _) ?_
  refine Run.seq ?_
  refine Run.region ?_
  refine Run.step rfl (OpStep.box (us := [.int .i64 N, .slice A n c]) rfl fun b1 => ?_)
  refine Run.q (v := .slice none 0 0) rfl (OpQ.y (OpY.pure rfl)) ?_
  refine Run.done ?_
  refine Run.seq ?_
  refine Run.region ?_
  refine Run.q (v := .slice none 0 0) rfl (OpQ.y (OpY.pure rfl)) ?_
  refine Run.done ?_
  refine Run.seq ?_
  refine Run.seq ?_
  refine Run.region ?_
  refine Run.q (v := .pointer (some ⟨b1, 1, none⟩)) rfl (OpQ.y (OpY.fieldAddr Tfo_30_1 rfl rfl)) ?_
  refine Run.q (v := .slice A n c) rfl (OpQ.y (OpY.load1 Tone_28 rfl (Cells.blk (.head _) ⟨rfl, trivial⟩))) ?_
  refine Run.q (v := .int .i64 (((n : Nat) : Int))) rfl (OpQ.y (OpY.len Tsl_28 rfl)) ?_
  refine Run.q (v := .int .i64 0) rfl (OpQ.y (OpY.pure rfl)) ?_
  refine Run.done ?_
  refine Run.block ?_
  refine Run.loop (ι := Nat × Value) [3, 4, 5, 6, 7, 8, 12, 13, 14, 15, 16, 17, 18, 19, 20, 21, 22, 23, 24, 25, 26, 27, 28, 29, 30, 31, 32, 33, 34, 35, 36, 37, 38, 39, 40, 41, 42, 43, 44, 45, 46] (fun ⟨k, v⟩ => [(3, v), (12, .int .i64 (((k : Nat) : Int)))]) (fun ⟨k, v⟩ => [.own v 3 1 k (ints (deepL incL xs k)), .blk b1 30 [.int .i64 N, .slice A n c]]) (fun ⟨k, v⟩ => k ≤ n) (fun ⟨k, v⟩ => n - k) (0, .slice none 0 0) ?_ ?_ ?_ ?_
  · exact Nat.zero_le _
  · exact ⟨rfl, rfl, trivial⟩
  · exact ((Weak.nilOwn 3 1).trans (Some'.weak (.takeEq rfl (.take (.nil _)))))
  · rintro ⟨k, v⟩ fr hinv
    show Run _ _ (over _ _ [(3, v), (12, .int .i64 (((k : Nat) : Int)))] fr) [.own v 3 1 k (ints (deepL incL xs k)), .blk b1 30 [.int .i64 N, .slice A n c]]
    try dsimp only at hinv
    refine Run.seq ?_
    refine Run.region ?_
    refine Run.q (v := .bool (decide ((((k : Nat) : Int)) < (((n : Nat) : Int))))) rfl (OpQ.y (OpY.pure rfl)) ?_
    refine Run.done ?_
    refine Run.seq ?_
    refine Run.cond (b := decide ((((k : Nat) : Int)) < (((n : Nat) : Int)))) rfl (fun h13 => ?_) (fun h13 => ?_)
    · have p13 := h13; try simp only [decide_eq_true_eq, decide_eq_false_iff_not, beq_iff_eq, bne_iff_ne, beq_eq_false_iff_ne, ne_eq, gt_iff_lt, ge_iff_le, Int.not_lt, Int.not_le, bne_eq_false_iff_eq, Bool.not_eq_true', Bool.not_eq_false', Bool.and_eq_true, Bool.and_eq_false_iff, Bool.or_eq_true, Bool.or_eq_false_iff, Decidable.not_not, List.cons.injEq, and_true] at p13
      have hltk : k < n := by omega
      obtain ⟨b, o, rfl⟩ := ha.opn (by omega)
      have hbl := bst_le (fun k => (hi1 k).2) xs k
      have hdn := dep_nonneg (fun k => (hi1 k).1) xs k
      refine Run.skip ?_
      refine Run.seq ?_
      refine Run.block ?_
      refine Run.seq ?_
      refine Run.region ?_
      refine Run.q (v := .int .i64 (((k : Nat) : Int))) rfl (OpQ.y (OpY.pure rfl)) ?_
      refine Run.q (v := .pointer (some ⟨b, o + k * 3, none⟩)) rfl (OpQ.y (OpY.index (kk := k) Tsl_28 rfl rfl (by omega) (by omega) (by first | rfl | omega))) ?_
      refine Run.q (v := .agg #[.int .i64 (ix xs (k * 3)), .int .i64 (ix xs (k * 3 + 1)), .int .i64 (ix xs (k * 3 + 2))]) rfl (OpQ.y (OpY.loadN (cs := [.int .i64 (ix xs (k * 3)), .int .i64 (ix xs (k * 3 + 1)), .int .i64 (ix xs (k * 3 + 2))]) Tagg_47 rfl (Cells.arg (k := k * 3) ha rfl (by omega) (pre3 (by omega))))) ?_
      refine Run.step rfl (OpStep.alloc (zs := [.int .i64 0, .int .i64 0, .int .i64 0]) Tzero_47 fun b2 => ?_)
      refine Run.q (v := .int .i64 (((k : Nat) : Int))) rfl (OpQ.y (OpY.pure rfl)) ?_
      refine Run.step rfl (OpStep.storeAll (us := [.int .i64 (ix xs (k * 3)), .int .i64 (ix xs (k * 3 + 1)), .int .i64 (ix xs (k * 3 + 2))]) Tsize_47 rfl rfl rfl (.here _) rfl ?_)
      refine Run.done ?_
      refine Run.seq ?_
      refine Run.region ?_
      refine Run.q (v := .int .i64 0) rfl (OpQ.y (OpY.pure rfl)) ?_
      refine Run.done ?_
      refine Run.seq ?_
      refine Run.seq ?_
      refine Run.region ?_
      refine Run.q (v := .pointer (some ⟨b1, 1, none⟩)) rfl (OpQ.y (OpY.fieldAddr Tfo_30_1 rfl rfl)) ?_
      refine Run.q (v := .slice (some ⟨b, o, none⟩) n c) rfl (OpQ.y (OpY.load1 Tone_28 rfl (Cells.blk (.tail _ (.tail _ (List.Mem.head _))) ⟨rfl, trivial⟩))) ?_
      refine Run.q (v := .int .i64 (((k : Nat) : Int))) rfl (OpQ.y (OpY.pure rfl)) ?_
      refine Run.q (v := .slice (some ⟨b, o, none⟩) k c) rfl (OpQ.y (OpY.sliceHN (h := k) Tsl_28 rfl rfl rfl (by omega))) ?_
      refine Run.q (v := .int .i64 (((k : Nat) : Int))) rfl (OpQ.y (OpY.len Tsl_28 rfl)) ?_
      refine Run.q (v := .int .i64 0) rfl (OpQ.y (OpY.pure rfl)) ?_
      refine Run.done ?_
      refine Run.block ?_
      refine Run.loop (ι := Nat) [6, 7, 8, 22, 23, 24, 25, 26, 27, 28, 29, 30, 31, 32, 33, 34, 35, 36] (fun m => [(6, .int .i64 (mxC incL xs (gq xs k) m)), (22, .int .i64 (((m : Nat) : Int)))]) (fun m => [.blk b2 47 [.int .i64 (ix xs (k * 3)), .int .i64 (ix xs (k * 3 + 1)), .int .i64 (ix xs (k * 3 + 2))], .own v 3 1 k (ints (deepL incL xs k)), .blk b1 30 [.int .i64 N, .slice (some ⟨b, o, none⟩) n c]]) (fun m => m ≤ k) (fun m => k - m) 0 ?_ ?_ ?_ ?_
      · exact Nat.zero_le _
      · exact ⟨rfl, rfl, trivial⟩
      · exact (Some'.weak (.take (.take (.take (.nil _)))))
      · rintro m fr hinv
        show Run _ _ (over _ _ [(6, .int .i64 (mxC incL xs (gq xs k) m)), (22, .int .i64 (((m : Nat) : Int)))] fr) [.blk b2 47 [.int .i64 (ix xs (k * 3)), .int .i64 (ix xs (k * 3 + 1)), .int .i64 (ix xs (k * 3 + 2))], .own v 3 1 k (ints (deepL incL xs k)), .blk b1 30 [.int .i64 N, .slice (some ⟨b, o, none⟩) n c]]
        try dsimp only at hinv
        refine Run.seq ?_
        refine Run.region ?_
        refine Run.q (v := .bool (decide ((((m : Nat) : Int)) < (((k : Nat) : Int))))) rfl (OpQ.y (OpY.pure rfl)) ?_
        refine Run.done ?_
        refine Run.seq ?_
        refine Run.cond (b := decide ((((m : Nat) : Int)) < (((k : Nat) : Int)))) rfl (fun h23 => ?_) (fun h23 => ?_)
        · have p23 := h23; try simp only [decide_eq_true_eq, decide_eq_false_iff_not, beq_iff_eq, bne_iff_ne, beq_eq_false_iff_ne, ne_eq, gt_iff_lt, ge_iff_le, Int.not_lt, Int.not_le, bne_eq_false_iff_eq, Bool.not_eq_true', Bool.not_eq_false', Bool.and_eq_true, Bool.and_eq_false_iff, Bool.or_eq_true, Bool.or_eq_false_iff, Decidable.not_not, List.cons.injEq, and_true] at p23
          have hltm : m < k := by omega
          have hdl := deepL_length incL xs k
          refine Run.openOwn (.tail _ (List.Mem.head _)) (by omega) (fun gd cd hvgd hcapgd _ => ?_) (fun _ _ _ => ⟨nofun, nofun, nofun⟩)
          subst hvgd
          refine Run.skip ?_
          refine Run.seq ?_
          refine Run.block ?_
          refine Run.seq ?_
          refine Run.region ?_
          refine Run.q (v := .int .i64 (((m : Nat) : Int))) rfl (OpQ.y (OpY.pure rfl)) ?_
          refine Run.q (v := .pointer (some ⟨b, o + m * 3, none⟩)) rfl (OpQ.y (OpY.index (kk := m) Tsl_28 rfl rfl (by omega) (by omega) (by first | rfl | omega))) ?_
          refine Run.q (v := .agg #[.int .i64 (ix xs (m * 3)), .int .i64 (ix xs (m * 3 + 1)), .int .i64 (ix xs (m * 3 + 2))]) rfl (OpQ.y (OpY.loadN (cs := [.int .i64 (ix xs (m * 3)), .int .i64 (ix xs (m * 3 + 1)), .int .i64 (ix xs (m * 3 + 2))]) Tagg_47 rfl (Cells.arg (k := m * 3) ha rfl (by omega) (pre3 (by omega))))) ?_
          refine Run.step rfl (OpStep.alloc (zs := [.int .i64 0, .int .i64 0, .int .i64 0]) Tzero_47 fun b3 => ?_)
          refine Run.q (v := .int .i64 (((m : Nat) : Int))) rfl (OpQ.y (OpY.pure rfl)) ?_
          refine Run.step rfl (OpStep.storeAll (us := [.int .i64 (ix xs (m * 3)), .int .i64 (ix xs (m * 3 + 1)), .int .i64 (ix xs (m * 3 + 2))]) Tsize_47 rfl rfl rfl (.here _) rfl ?_)
          refine Run.done ?_
          refine Run.seq ?_
          refine Run.region ?_
          refine Run.q (v := .agg #[.int .i64 (ix xs (k * 3)), .int .i64 (ix xs (k * 3 + 1)), .int .i64 (ix xs (k * 3 + 2))]) rfl (OpQ.y (OpY.loadN (cs := [.int .i64 (ix xs (k * 3)), .int .i64 (ix xs (k * 3 + 1)), .int .i64 (ix xs (k * 3 + 2))]) Tagg_47 rfl (Cells.blk (.tail _ (List.Mem.head _)) ⟨rfl, rfl, rfl, trivial⟩))) ?_
          refine Run.q (v := .agg #[.int .i64 (ix xs (m * 3)), .int .i64 (ix xs (m * 3 + 1)), .int .i64 (ix xs (m * 3 + 2))]) rfl (OpQ.y (OpY.loadN (cs := [.int .i64 (ix xs (m * 3)), .int .i64 (ix xs (m * 3 + 1)), .int .i64 (ix xs (m * 3 + 2))]) Tagg_47 rfl (Cells.blk (.head _) ⟨rfl, rfl, rfl, trivial⟩))) ?_
          refine Run.q (v := .bool (common (gq xs k) (gq xs m))) rfl (OpQ.call (vs := [.agg #[.int .i64 (ix xs (k * 3)), .int .i64 (ix xs (k * 3 + 1)), .int .i64 (ix xs (k * 3 + 2))], .agg #[.int .i64 (ix xs (m * 3)), .int .i64 (ix xs (m * 3 + 1)), .int .i64 (ix xs (m * 3 + 2))]]) (caps := []) Tcall_41 rfl rfl (fun w hs => l24Common_spec _ _ _ _ _ _ w)) ?_
          refine Run.done ?_
          refine Run.cond (b := common (gq xs k) (gq xs m)) rfl (fun h29 => ?_) (fun h29 => ?_)
          · have p29 := h29; try simp only [decide_eq_true_eq, decide_eq_false_iff_not, beq_iff_eq, bne_iff_ne, beq_eq_false_iff_ne, ne_eq, gt_iff_lt, ge_iff_le, Int.not_lt, Int.not_le, bne_eq_false_iff_eq, Bool.not_eq_true', Bool.not_eq_false', Bool.and_eq_true, Bool.and_eq_false_iff, Bool.or_eq_true, Bool.or_eq_false_iff, Decidable.not_not, List.cons.injEq, and_true] at p29
            refine Run.region ?_
            refine Run.q (v := .int .i64 (mxC incL xs (gq xs k) m)) rfl (OpQ.y (OpY.pure rfl)) ?_
            refine Run.q (v := .slice (some ⟨gd, 0, none⟩) k cd) rfl (OpQ.y (OpY.pure rfl)) ?_
            refine Run.q (v := .int .i64 (((m : Nat) : Int))) rfl (OpQ.y (OpY.pure rfl)) ?_
            refine Run.q (v := .pointer (some ⟨gd, m, none⟩)) rfl (OpQ.y (OpY.index (kk := m) Tsl_43 rfl rfl (by omega) (by omega) (by first | rfl | omega))) ?_
            refine Run.q (v := .int .i64 (ix (deepL incL xs k) (m))) rfl (OpQ.y (OpY.load1 Tone_3 rfl (Cells.own0 (.tail _ (.tail _ (List.Mem.head _))) (pre1 (by first | omega | (simp; omega)))))) ?_
            refine Run.q (v := .int .i64 (max (mxC incL xs (gq xs k) m) (ix (deepL incL xs k) (m)))) rfl (OpQ.call (vs := [.int .i64 (mxC incL xs (gq xs k) m), .int .i64 (ix (deepL incL xs k) (m))]) (caps := []) Tcall_42 rfl rfl (fun w hs => l1Most_spec _ _ w)) ?_
            refine Run.q (v := .int .i64 (max (mxC incL xs (gq xs k) m) (ix (deepL incL xs k) (m)))) rfl (OpQ.y (OpY.pure rfl)) ?_
            refine Run.done ?_
            refine Run.blockEnd ?_
            refine Run.region ?_
            refine Run.q (v := .int .i64 ((((m : Nat) : Int)) + 1)) rfl (OpQ.y (OpY.add rfl rfl rfl (by omega) (by omega))) ?_
            refine Run.q (v := .int .i64 ((((m : Nat) : Int)) + 1)) rfl (OpQ.y (OpY.pure rfl)) ?_
            refine Run.done ?_
            refine Run.goal ⟨(by repeat (first | exact Same.refl _ _ | refine Same.put rfl ?_ | refine Same.over rfl rfl ?_)), m + 1, ?_, ?_, ?_, ?_⟩
            · omega
            · omega
            · exact ⟨(by show Value.int _ _ = Value.int _ _; first | rw [mxC, if_pos h29, ix_deepL hltm] | rw [mxC, if_neg (by rw [h29]; decide)]), (by first | rfl | (congr 1; omega) | simp), trivial⟩
            · exact (Some'.weak (.skip (.take (.takeEq (by first | rfl | simp) (.take (.nil _))))))
          · have p29 := h29; try simp only [decide_eq_true_eq, decide_eq_false_iff_not, beq_iff_eq, bne_iff_ne, beq_eq_false_iff_ne, ne_eq, gt_iff_lt, ge_iff_le, Int.not_lt, Int.not_le, bne_eq_false_iff_eq, Bool.not_eq_true', Bool.not_eq_false', Bool.and_eq_true, Bool.and_eq_false_iff, Bool.or_eq_true, Bool.or_eq_false_iff, Decidable.not_not, List.cons.injEq, and_true] at p29
            refine Run.skip ?_
            refine Run.blockEnd ?_
            refine Run.region ?_
            refine Run.q (v := .int .i64 ((((m : Nat) : Int)) + 1)) rfl (OpQ.y (OpY.add rfl rfl rfl (by omega) (by omega))) ?_
            refine Run.q (v := .int .i64 ((((m : Nat) : Int)) + 1)) rfl (OpQ.y (OpY.pure rfl)) ?_
            refine Run.done ?_
            refine Run.goal ⟨(by repeat (first | exact Same.refl _ _ | refine Same.put rfl ?_ | refine Same.over rfl rfl ?_)), m + 1, ?_, ?_, ?_, ?_⟩
            · omega
            · omega
            · exact ⟨(by show Value.int _ _ = Value.int _ _; first | rw [mxC, if_pos h29, ix_deepL hltm] | rw [mxC, if_neg (by rw [h29]; decide)]), (by first | rfl | (congr 1; omega) | simp), trivial⟩
            · exact (Some'.weak (.skip (.take (.takeEq (by first | rfl | simp) (.take (.nil _))))))
        · have p23 := h23; try simp only [decide_eq_true_eq, decide_eq_false_iff_not, beq_iff_eq, bne_iff_ne, beq_eq_false_iff_ne, ne_eq, gt_iff_lt, ge_iff_le, Int.not_lt, Int.not_le, bne_eq_false_iff_eq, Bool.not_eq_true', Bool.not_eq_false', Bool.and_eq_true, Bool.and_eq_false_iff, Bool.or_eq_true, Bool.or_eq_false_iff, Decidable.not_not, List.cons.injEq, and_true] at p23
          have hmk : m = k := by omega
          have hmc : mxC incL xs (gq xs k) m = top (bst incL xs k) (gq xs k) := by rw [hmk]; exact mxC_eq (fun k => (hi1 k).1) xs (gq_cases xs k) k
          have hge : 0 ≤ top (bst incL xs k) (gq xs k) := (top_ge _ _ 0).1
          refine Run.exit rfl ?_
          refine Run.seq ?_
          refine Run.seq ?_
          refine Run.region ?_
          refine Run.q (v := .pointer (some ⟨b2, 0, none⟩)) rfl (OpQ.y (OpY.fieldAddr Tfo_47_0 rfl rfl)) ?_
          refine Run.q (v := .int .i64 (ix xs (k * 3))) rfl (OpQ.y (OpY.load1 Tone_3 rfl (Cells.blk (.head _) ⟨rfl, trivial⟩))) ?_
          refine Run.q (v := .bool ((ix xs (k * 3)) != 12)) rfl (OpQ.y (OpY.pure rfl)) ?_
          refine Run.done ?_
          refine Run.cond (b := (ix xs (k * 3)) != 12) rfl (fun h39 => ?_) (fun h39 => ?_)
          · have p39 := h39; try simp only [decide_eq_true_eq, decide_eq_false_iff_not, beq_iff_eq, bne_iff_ne, beq_eq_false_iff_ne, ne_eq, gt_iff_lt, ge_iff_le, Int.not_lt, Int.not_le, bne_eq_false_iff_eq, Bool.not_eq_true', Bool.not_eq_false', Bool.and_eq_true, Bool.and_eq_false_iff, Bool.or_eq_true, Bool.or_eq_false_iff, Decidable.not_not, List.cons.injEq, and_true] at p39
            refine Run.region ?_
            refine Run.q (v := .int .i64 (mxC incL xs (gq xs k) m)) rfl (OpQ.y (OpY.pure rfl)) ?_
            refine Run.q (v := .int .i64 ((mxC incL xs (gq xs k) m) + 1)) rfl (OpQ.y (OpY.add rfl rfl rfl (by omega) (by omega))) ?_
            refine Run.q (v := .int .i64 ((mxC incL xs (gq xs k) m) + 1)) rfl (OpQ.y (OpY.pure rfl)) ?_
            refine Run.done ?_
            have hD : (mxC incL xs (gq xs k) m) + 1 = dep incL xs k := by rw [dep, hmc]; first | rw [incL, if_neg p39] | rw [incL, if_pos p39, Int.add_zero]
            have hX : deepL incL xs (k + 1) = deepL incL xs k ++ [(mxC incL xs (gq xs k) m) + 1] := by rw [hD, deepL_succ]
            refine Run.region ?_
            refine Run.q (v := v) rfl (OpQ.y (OpY.pure rfl)) ?_
            refine Run.q (v := .int .i64 ((mxC incL xs (gq xs k) m) + 1)) rfl (OpQ.y (OpY.pure rfl)) ?_
            refine Run.step rfl (OpStep.buildSlice (us := [.int .i64 ((mxC incL xs (gq xs k) m) + 1)]) Tsl_43 (by decide) (by decide) ⟨rfl, [.int .i64 ((mxC incL xs (gq xs k) m) + 1)], _, rfl, rfl, rfl, rfl⟩ rfl fun b4 => ?_)
            refine Run.step rfl (OpStep.append (H1 := [.own (.slice (some ⟨b4, 0, none⟩) 1 1) 3 1 1 ([.int .i64 ((mxC incL xs (gq xs k) m) + 1)]), .blk b2 47 [.int .i64 (ix xs (k * 3)), .int .i64 (ix xs (k * 3 + 1)), .int .i64 (ix xs (k * 3 + 2))]]) (H2 := [.blk b1 30 [.int .i64 N, .slice (some ⟨b, o, none⟩) n c]]) (v := v) (u := .slice (some ⟨b4, 0, none⟩) 1 1) (n := k) (m := 1) (xs := ints (deepL incL xs k)) (ys := [.int .i64 ((mxC incL xs (gq xs k) m) + 1)]) Tsl_43 (by decide) rfl rfl rfl rfl (fun w hs => hs.slOwn (.head _)) (by simp [Value.oneCell']) (by first | omega | (simp; omega)) (by simp only [maxLen]; first | omega | (simp; omega)) fun av1 hnav1 => ?_)
            refine Run.weak (H' := [.own (.slice (some ⟨b4, 0, none⟩) 1 1) 3 1 1 ([.int .i64 ((mxC incL xs (gq xs k) m) + 1)]), .blk b2 47 [.int .i64 (ix xs (k * 3)), .int .i64 (ix xs (k * 3 + 1)), .int .i64 (ix xs (k * 3 + 2))], .own av1 3 1 (k + 1) (ints (deepL incL xs k ++ [(mxC incL xs (gq xs k) m) + 1])), .blk b1 30 [.int .i64 N, .slice (some ⟨b, o, none⟩) n c]]) (Some'.weak (.take (.take (.takeEq (by simp [ints, List.append_assoc, Nat.add_assoc]) (.take (.nil _)))))) ?_ ⟨_, _, rfl, fun _ => nofun, fun _ => nofun⟩
            refine Run.q (v := av1) rfl (OpQ.y (OpY.pure rfl)) ?_
            refine Run.done ?_
            refine Run.blockEnd ?_
            refine Run.region ?_
            refine Run.q (v := .int .i64 ((((k : Nat) : Int)) + 1)) rfl (OpQ.y (OpY.add rfl rfl rfl (by omega) (by omega))) ?_
            refine Run.q (v := .int .i64 ((((k : Nat) : Int)) + 1)) rfl (OpQ.y (OpY.pure rfl)) ?_
            refine Run.done ?_
            refine Run.goal ⟨(by repeat (first | exact Same.refl _ _ | refine Same.put rfl ?_ | refine Same.over rfl rfl ?_)), (k + 1, av1), ?_, ?_, ?_, ?_⟩
            · show k + 1 ≤ n; omega
            · show n - (k + 1) < n - k; omega
            · exact ⟨(by first | rfl | (congr 1; omega) | simp), (by first | rfl | (congr 1; omega) | simp), trivial⟩
            · exact (Some'.weak (.skip (.skip (.takeEq (by first | rw [hX] | rfl) (.takeEq (by first | rw [hX] | rfl) (.nil _))))))
          · have p39 := h39; try simp only [decide_eq_true_eq, decide_eq_false_iff_not, beq_iff_eq, bne_iff_ne, beq_eq_false_iff_ne, ne_eq, gt_iff_lt, ge_iff_le, Int.not_lt, Int.not_le, bne_eq_false_iff_eq, Bool.not_eq_true', Bool.not_eq_false', Bool.and_eq_true, Bool.and_eq_false_iff, Bool.or_eq_true, Bool.or_eq_false_iff, Decidable.not_not, List.cons.injEq, and_true] at p39
            refine Run.skip ?_
            have hD : mxC incL xs (gq xs k) m = dep incL xs k := by rw [dep, hmc]; first | rw [incL, if_neg p39] | rw [incL, if_pos p39, Int.add_zero]
            have hX : deepL incL xs (k + 1) = deepL incL xs k ++ [mxC incL xs (gq xs k) m] := by rw [hD, deepL_succ]
            refine Run.region ?_
            refine Run.q (v := v) rfl (OpQ.y (OpY.pure rfl)) ?_
            refine Run.q (v := .int .i64 (mxC incL xs (gq xs k) m)) rfl (OpQ.y (OpY.pure rfl)) ?_
            refine Run.step rfl (OpStep.buildSlice (us := [.int .i64 (mxC incL xs (gq xs k) m)]) Tsl_43 (by decide) (by decide) ⟨rfl, [.int .i64 (mxC incL xs (gq xs k) m)], _, rfl, rfl, rfl, rfl⟩ rfl fun b5 => ?_)
            refine Run.step rfl (OpStep.append (H1 := [.own (.slice (some ⟨b5, 0, none⟩) 1 1) 3 1 1 ([.int .i64 (mxC incL xs (gq xs k) m)]), .blk b2 47 [.int .i64 (ix xs (k * 3)), .int .i64 (ix xs (k * 3 + 1)), .int .i64 (ix xs (k * 3 + 2))]]) (H2 := [.blk b1 30 [.int .i64 N, .slice (some ⟨b, o, none⟩) n c]]) (v := v) (u := .slice (some ⟨b5, 0, none⟩) 1 1) (n := k) (m := 1) (xs := ints (deepL incL xs k)) (ys := [.int .i64 (mxC incL xs (gq xs k) m)]) Tsl_43 (by decide) rfl rfl rfl rfl (fun w hs => hs.slOwn (.head _)) (by simp [Value.oneCell']) (by first | omega | (simp; omega)) (by simp only [maxLen]; first | omega | (simp; omega)) fun av2 hnav2 => ?_)
            refine Run.weak (H' := [.own (.slice (some ⟨b5, 0, none⟩) 1 1) 3 1 1 ([.int .i64 (mxC incL xs (gq xs k) m)]), .blk b2 47 [.int .i64 (ix xs (k * 3)), .int .i64 (ix xs (k * 3 + 1)), .int .i64 (ix xs (k * 3 + 2))], .own av2 3 1 (k + 1) (ints (deepL incL xs k ++ [mxC incL xs (gq xs k) m])), .blk b1 30 [.int .i64 N, .slice (some ⟨b, o, none⟩) n c]]) (Some'.weak (.take (.take (.takeEq (by simp [ints, List.append_assoc, Nat.add_assoc]) (.take (.nil _)))))) ?_ ⟨_, _, rfl, fun _ => nofun, fun _ => nofun⟩
            refine Run.q (v := av2) rfl (OpQ.y (OpY.pure rfl)) ?_
            refine Run.done ?_
            refine Run.blockEnd ?_
            refine Run.region ?_
            refine Run.q (v := .int .i64 ((((k : Nat) : Int)) + 1)) rfl (OpQ.y (OpY.add rfl rfl rfl (by omega) (by omega))) ?_
            refine Run.q (v := .int .i64 ((((k : Nat) : Int)) + 1)) rfl (OpQ.y (OpY.pure rfl)) ?_
            refine Run.done ?_
            refine Run.goal ⟨(by repeat (first | exact Same.refl _ _ | refine Same.put rfl ?_ | refine Same.over rfl rfl ?_)), (k + 1, av2), ?_, ?_, ?_, ?_⟩
            · show k + 1 ≤ n; omega
            · show n - (k + 1) < n - k; omega
            · exact ⟨(by first | rfl | (congr 1; omega) | simp), (by first | rfl | (congr 1; omega) | simp), trivial⟩
            · exact (Some'.weak (.skip (.skip (.takeEq (by first | rw [hX] | rfl) (.takeEq (by first | rw [hX] | rfl) (.nil _))))))
    · have p13 := h13; try simp only [decide_eq_true_eq, decide_eq_false_iff_not, beq_iff_eq, bne_iff_ne, beq_eq_false_iff_ne, ne_eq, gt_iff_lt, ge_iff_le, Int.not_lt, Int.not_le, bne_eq_false_iff_eq, Bool.not_eq_true', Bool.not_eq_false', Bool.and_eq_true, Bool.and_eq_false_iff, Bool.or_eq_true, Bool.or_eq_false_iff, Decidable.not_not, List.cons.injEq, and_true] at p13
      have hknk : k = n := by omega
      refine Run.exit rfl ?_
      refine Run.seq ?_
      refine Run.region ?_
      refine Run.q (v := v) rfl (OpQ.y (OpY.pure rfl)) ?_
      refine Run.q (v := v) rfl (OpQ.y (OpY.pure rfl)) ?_
      refine Run.done ?_
      refine Run.ret ?_
      refine ⟨v, [.own v 3 1 n (ints (deepL incL xs n))], Out.one rfl rfl, (Some'.weak (.takeEq (by rw [hknk]) (.nil _))), ?_⟩
      rfl

end Go.Proofs.Ytbepibalnnbmgaa
