/- Walks: gates with a common qubit, TDepthOf of the program and of the reference. -/
import Derived.Test.YtbepibalnnbmgaaDep
import Derived.Test.YtbepibalnnbmgaaCg3
import Derived.Test.YtbepibalnnbmgaaProg
set_option linter.unusedSimpArgs false
set_option linter.unusedVariables false
namespace Go.Proofs.Ytbepibalnnbmgaa
open Go Go.RowKit
namespace TdT
theorem Tagg_47 : aggOf Try.prog 47 = some 3 := by kernel_rfl
theorem Tcall_46 : callable Try.prog 46 = true := by kernel_rfl
theorem Tcall_47 : callable Try.prog 47 = true := by kernel_rfl
theorem Tone_3 : oneOf Try.prog 3 = true := by kernel_rfl
theorem Tsl_43 : sliceOf Try.prog 43 = some (3, 1, 8, [.int .i64 0]) := by kernel_rfl
end TdT
open TdT

theorem hasI_contains (R : List Int) (x : Int) : hasI R x R.length = R.contains x := by
  rw [Bool.eq_iff_iff, hasI, anyI_iff]
  simp only [decide_eq_true_eq, List.contains_iff_mem]
  constructor
  · rintro ⟨i, h, rfl⟩; exact ix_mem h
  · intro h
    obtain ⟨i, hi, he⟩ := List.getElem_of_mem h
    exact ⟨i, hi, by simp [ix, List.getD, hi, he]⟩
theorem common_true {Q R : List Int} {i : Nat} (h : i < Q.length) (hr : R.contains (ix Q i) = true) : common Q R = true := List.any_eq_true.2 ⟨_, ix_mem h, hr⟩
theorem common_false {Q R : List Int} (h : ∀ i, i < Q.length → R.contains (ix Q i) = false) : common Q R = false := by
  cases hb : common Q R with
  | false => rfl
  | true =>
    obtain ⟨q, hq, hr⟩ := List.any_eq_true.1 hb
    obtain ⟨i, hi, he⟩ := List.getElem_of_mem hq
    have := h i hi
    simp only [ix, List.getD, List.getElem?_eq_getElem hi, Option.getD_some, he] at this
    rw [this] at hr; cases hr

set_option maxHeartbeats 1000000 in
set_option maxRecDepth 20000 in
theorem l24Common_spec (k a b k' a' b' : Int) (w : World) : Calls Try.prog 41 #[.agg #[.int .i64 k, .int .i64 a, .int .i64 b], .agg #[.int .i64 k', .int .i64 a', .int .i64 b']] w (Post No w fun v _ => v = .bool (common (qs k a b) (qs k' a' b'))) := by
  have hqle := qs_le k a b
  refine enter (n := 19) (args := [.agg #[.int .i64 k, .int .i64 a, .int .i64 b], .agg #[.int .i64 (k'), .int .i64 (a'), .int .i64 (b')]]) Try.func41 rfl rfl (St.empty _ _) ?_
  refine Run.seq ?_
  refine Run.region ?_
  refine Run.step rfl (OpStep.box (us := [.int .i64 k, .int .i64 a, .int .i64 b]) rfl fun b1 => ?_)
  refine Run.step rfl (OpStep.box (us := [.int .i64 (k'), .int .i64 (a'), .int .i64 (b')]) rfl fun b2 => ?_)
  refine Run.q (v := .bool false) rfl (OpQ.y (OpY.pure rfl)) ?_
  refine Run.done ?_
  refine Run.seq ?_
  refine Run.seq ?_
  refine Run.region ?_
  refine Run.q (v := .agg #[.int .i64 k, .int .i64 a, .int .i64 b]) rfl (OpQ.y (OpY.loadN (cs := [.int .i64 k, .int .i64 a, .int .i64 b]) Tagg_47 rfl (Cells.blk (.tail _ (List.Mem.head _)) ⟨rfl, rfl, rfl, trivial⟩))) ?_
  refine Run.step rfl (OpStep.call (vs := [.agg #[.int .i64 k, .int .i64 a, .int .i64 b]]) (caps := []) Tcall_46 rfl rfl (fun w hs => l23Qubits_spec _ _ _ w) ?_)
  rintro u1 _ rfl
  show Run _ _ (putF _ _ _ u1) [.own u1 3 1 ((qs k a b).length) (ints (qs k a b)), .blk b2 47 [.int .i64 (k'), .int .i64 (a'), .int .i64 (b')], .blk b1 47 [.int .i64 k, .int .i64 a, .int .i64 b]]
  refine Run.formOwn (.head _) (fun A_u11 c_u11 hv hcapc_u11 hmaxc_u11 => ?_) (fun _ _ _ => ⟨nofun, nofun, nofun⟩)
  subst hv
  refine Run.q (v := .int .i64 ((((qs k a b).length : Nat) : Int))) rfl (OpQ.y (OpY.len Tsl_43 rfl)) ?_
  refine Run.q (v := .int .i64 0) rfl (OpQ.y (OpY.pure rfl)) ?_
  refine Run.done ?_
  refine Run.block ?_
  refine Run.loop (ι := Nat) [4, 6, 10, 11, 12, 13, 14, 15, 16, 17, 18] (fun m => [(10, .int .i64 (((m : Nat) : Int)))]) (fun m => [.own (.slice A_u11 ((qs k a b).length) c_u11) 3 1 ((qs k a b).length) (ints (qs k a b)), .blk b2 47 [.int .i64 (k'), .int .i64 (a'), .int .i64 (b')], .blk b1 47 [.int .i64 k, .int .i64 a, .int .i64 b]]) (fun m => m ≤ (qs k a b).length ∧ (∀ i, i < m → (qs k' a' b').contains (ix (qs k a b) i) = false)) (fun m => (qs k a b).length - m) 0 ?_ ?_ ?_ ?_
  · exact ⟨Nat.zero_le _, by first | trivial | (intro i hi; omega)⟩
  · exact ⟨rfl, trivial⟩
  · exact (Some'.weak (.take (.take (.take (.nil _)))))
  · rintro m fr hinv
    show Run _ _ (over _ _ [(10, .int .i64 (((m : Nat) : Int)))] fr) [.own (.slice A_u11 ((qs k a b).length) c_u11) 3 1 ((qs k a b).length) (ints (qs k a b)), .blk b2 47 [.int .i64 (k'), .int .i64 (a'), .int .i64 (b')], .blk b1 47 [.int .i64 k, .int .i64 a, .int .i64 b]]
    try dsimp only at hinv
    refine Run.seq ?_
    refine Run.region ?_
    refine Run.q (v := .bool (decide ((((m : Nat) : Int)) < ((((qs k a b).length : Nat) : Int))))) rfl (OpQ.y (OpY.pure rfl)) ?_
    refine Run.done ?_
    refine Run.seq ?_
    refine Run.cond (b := decide ((((m : Nat) : Int)) < ((((qs k a b).length : Nat) : Int)))) rfl (fun h11 => ?_) (fun h11 => ?_)
    · have p11 := h11; try simp only [decide_eq_true_eq, decide_eq_false_iff_not, beq_iff_eq, bne_iff_ne, beq_eq_false_iff_ne, ne_eq, gt_iff_lt, ge_iff_le, Int.not_lt, Int.not_le, bne_eq_false_iff_eq, Bool.not_eq_true', Bool.not_eq_false', Bool.and_eq_true, Bool.and_eq_false_iff, Bool.or_eq_true, Bool.or_eq_false_iff, Decidable.not_not, List.cons.injEq, and_true] at p11
      have hltm : m < (qs k a b).length := by omega
      refine Run.openOwn (.head _) (by omega) (fun g1 cg1 hvg1 hcapg1 _ => ?_) (fun _ _ _ => ⟨nofun, nofun, nofun⟩)
      injection hvg1 with hAg1 _ hcg1; subst hAg1; subst hcg1
      refine Run.skip ?_
      refine Run.seq ?_
      refine Run.block ?_
      refine Run.seq ?_
      refine Run.region ?_
      refine Run.q (v := .pointer (some ⟨g1, m, none⟩)) rfl (OpQ.y (OpY.index (kk := m) Tsl_43 rfl rfl (by omega) (by omega) (by first | rfl | omega))) ?_
      refine Run.q (v := .int .i64 (ix (qs k a b) (m))) rfl (OpQ.y (OpY.load1 Tone_3 rfl (Cells.own0 (.head _) (pre1 (by omega))))) ?_
      refine Run.q (v := .int .i64 (ix (qs k a b) (m))) rfl (OpQ.y (OpY.pure rfl)) ?_
      refine Run.done ?_
      refine Run.seq ?_
      refine Run.region ?_
      refine Run.q (v := .agg #[.int .i64 (k'), .int .i64 (a'), .int .i64 (b')]) rfl (OpQ.y (OpY.loadN (cs := [.int .i64 (k'), .int .i64 (a'), .int .i64 (b')]) Tagg_47 rfl (Cells.blk (.tail _ (List.Mem.head _)) ⟨rfl, rfl, rfl, trivial⟩))) ?_
      refine Run.step rfl (OpStep.call (vs := [.agg #[.int .i64 (k'), .int .i64 (a'), .int .i64 (b')]]) (caps := []) Tcall_46 rfl rfl (fun w hs => l23Qubits_spec _ _ _ w) ?_)
      rintro u2 _ rfl
      show Run _ _ (putF _ _ _ u2) [.own u2 3 1 ((qs k' a' b').length) (ints (qs k' a' b')), .own (.slice (some ⟨g1, 0, none⟩) ((qs k a b).length) c_u11) 3 1 ((qs k a b).length) (ints (qs k a b)), .blk b2 47 [.int .i64 (k'), .int .i64 (a'), .int .i64 (b')], .blk b1 47 [.int .i64 k, .int .i64 a, .int .i64 b]]
      refine Run.q (v := .int .i64 (ix (qs k a b) (m))) rfl (OpQ.y (OpY.pure rfl)) ?_
      refine Run.q (v := .bool (hasI (qs k' a' b') (ix (qs k a b) (m)) (qs k' a' b').length)) rfl (OpQ.call (vs := [u2, .int .i64 (ix (qs k a b) (m))]) (caps := []) Tcall_47 rfl rfl (fun w hs => l1Has_spec (hs.slOwn (.head _)))) ?_
      refine Run.done ?_
      refine Run.cond (b := hasI (qs k' a' b') (ix (qs k a b) (m)) (qs k' a' b').length) rfl (fun h17 => ?_) (fun h17 => ?_)
      · have p17 := h17; try simp only [decide_eq_true_eq, decide_eq_false_iff_not, beq_iff_eq, bne_iff_ne, beq_eq_false_iff_ne, ne_eq, gt_iff_lt, ge_iff_le, Int.not_lt, Int.not_le, bne_eq_false_iff_eq, Bool.not_eq_true', Bool.not_eq_false', Bool.and_eq_true, Bool.and_eq_false_iff, Bool.or_eq_true, Bool.or_eq_false_iff, Decidable.not_not, List.cons.injEq, and_true] at p17
        refine Run.seq ?_
        have hres : common (qs k a b) (qs k' a' b') = true := common_true hltm (by rw [← hasI_contains]; exact h17)
        refine Run.region ?_
        refine Run.q (v := .bool true) rfl (OpQ.y (OpY.pure rfl)) ?_
        refine Run.done ?_
        refine Run.ret ?_
        refine ⟨.bool true, [], Out.one rfl rfl, (Some'.weak (.nil _)), ?_⟩
        show _ = _; rw [hres]
      · have p17 := h17; try simp only [decide_eq_true_eq, decide_eq_false_iff_not, beq_iff_eq, bne_iff_ne, beq_eq_false_iff_ne, ne_eq, gt_iff_lt, ge_iff_le, Int.not_lt, Int.not_le, bne_eq_false_iff_eq, Bool.not_eq_true', Bool.not_eq_false', Bool.and_eq_true, Bool.and_eq_false_iff, Bool.or_eq_true, Bool.or_eq_false_iff, Decidable.not_not, List.cons.injEq, and_true] at p17
        refine Run.skip ?_
        refine Run.blockEnd ?_
        have hgood : (qs k' a' b').contains (ix (qs k a b) m) = false := by rw [← hasI_contains]; exact h17
        refine Run.region ?_
        refine Run.q (v := .int .i64 ((((m : Nat) : Int)) + 1)) rfl (OpQ.y (OpY.add rfl rfl rfl (by omega) (by omega))) ?_
        refine Run.q (v := .int .i64 ((((m : Nat) : Int)) + 1)) rfl (OpQ.y (OpY.pure rfl)) ?_
        refine Run.done ?_
        refine Run.goal ⟨(by repeat (first | exact Same.refl _ _ | refine Same.put rfl ?_ | refine Same.over rfl rfl ?_)), m + 1, ?_, ?_, ?_, ?_⟩
        · refine ⟨by omega, ?_⟩
          intro i hi
          rcases Nat.lt_succ_iff_lt_or_eq.1 hi with h | h
          · exact hinv.2 i h
          · rw [h]; exact hgood
        · omega
        · exact ⟨(by first | rfl | (congr 1; omega) | simp), trivial⟩
        · exact (Some'.weak (.skip (.takeEq (by first | rfl | simp) (.take (.take (.nil _))))))
    · have p11 := h11; try simp only [decide_eq_true_eq, decide_eq_false_iff_not, beq_iff_eq, bne_iff_ne, beq_eq_false_iff_ne, ne_eq, gt_iff_lt, ge_iff_le, Int.not_lt, Int.not_le, bne_eq_false_iff_eq, Bool.not_eq_true', Bool.not_eq_false', Bool.and_eq_true, Bool.and_eq_false_iff, Bool.or_eq_true, Bool.or_eq_false_iff, Decidable.not_not, List.cons.injEq, and_true] at p11
      have hknm : m = (qs k a b).length := by omega
      have hres : common (qs k a b) (qs k' a' b') = false := common_false (by rw [← hknm]; exact hinv.2)
      refine Run.exit rfl ?_
      refine Run.seq ?_
      refine Run.region ?_
      refine Run.q (v := .bool false) rfl (OpQ.y (OpY.pure rfl)) ?_
      refine Run.done ?_
      refine Run.ret ?_
      refine ⟨.bool false, [], Out.one rfl rfl, (Some'.weak (.nil _)), ?_⟩
      show _ = _; rw [hres]


def deepL (inc : Int → Int) (xs : List Int) (k : Nat) : List Int := (List.range k).map (dep inc xs)
@[simp] theorem deepL_length (inc : Int → Int) (xs : List Int) (k : Nat) : (deepL inc xs k).length = k := by simp [deepL]
theorem deepL_succ (inc : Int → Int) (xs : List Int) (k : Nat) : deepL inc xs (k + 1) = deepL inc xs k ++ [dep inc xs k] := by simp [deepL, List.range_succ]
theorem ix_deepL {inc : Int → Int} {xs : List Int} {k m : Nat} (h : m < k) : ix (deepL inc xs k) m = dep inc xs m := by simp [ix, deepL, List.getD, h]

end Go.Proofs.Ytbepibalnnbmgaa
