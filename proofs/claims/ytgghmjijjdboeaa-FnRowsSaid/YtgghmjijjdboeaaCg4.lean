/- Walks: the neighbours of a node. -/
import Derived.Test.YtgghmjijjdboeaaCg3
import Derived.Test.YtgghmjijjdboeaaProg
set_option linter.unusedSimpArgs false
set_option linter.unusedVariables false
namespace Go.Proofs.Ytgghmjijjdboeaa
open Go Go.RowKit
namespace Cg4T
theorem Tagg_25 : aggOf Try.prog 25 = some 2 := by kernel_rfl
theorem Tcall_14 : callable Try.prog 14 = true := by kernel_rfl
theorem Tcall_39 : callable Try.prog 39 = true := by kernel_rfl
theorem Tcall_53 : callable Try.prog 53 = true := by kernel_rfl
theorem Tcall_67 : callable Try.prog 67 = true := by kernel_rfl
theorem Tcall_69 : callable Try.prog 69 = true := by kernel_rfl
theorem Tfo_25_0 : fieldOff Try.prog 25 0 = some 0 := by kernel_rfl
theorem Tone_3 : oneOf Try.prog 3 = true := by kernel_rfl
theorem Tsl_34 : sliceOf Try.prog 34 = some (3, 1, 8, [.int .i64 0]) := by kernel_rfl
end Cg4T
open Cg4T
set_option maxHeartbeats 1000000 in
set_option maxRecDepth 20000 in
theorem l22Near_spec {N node : Int} {va : Value} {n : Nat} {xs : List Int} {w : World} (hN : 1 ≤ N ∧ N ≤ 8) (he : edgesOk N xs n = true) (ha : Sl w va 2 n (ints xs)) : Calls Try.prog 73 #[.agg #[.int .i64 N, va], .int .i64 node] w (Post No w fun v H => H = [.own v 3 1 (nbL N xs n node).length (ints (nbL N xs n node))]) := by
  refine enter (n := 22) (args := [.agg #[.int .i64 N, va], .int .i64 node]) Try.func73 rfl rfl (St.empty _ _) ?_
  refine Run.seq ?_
  refine Run.region ?_
  refine Run.step rfl (OpStep.box (us := [.int .i64 N, va]) rfl fun b1 => ?_)
  refine Run.q (v := .slice none 0 0) rfl (OpQ.y (OpY.pure rfl)) ?_
  refine Run.done ?_
  refine Run.seq ?_
  refine Run.region ?_
  refine Run.q (v := .slice none 0 0) rfl (OpQ.y (OpY.pure rfl)) ?_
  refine Run.done ?_
  refine Run.seq ?_
  refine Run.seq ?_
  refine Run.region ?_
  refine Run.q (v := .int .i64 0) rfl (OpQ.y (OpY.pure rfl)) ?_
  refine Run.done ?_
  refine Run.block ?_
  refine Run.loop (ι := Nat × Value) [5, 6, 7, 8, 9, 10, 11, 12, 13, 14, 15, 16, 17, 18, 19, 20] (fun ⟨k, v⟩ => [(5, v), (6, .int .i64 (((k : Nat) : Int)))]) (fun ⟨k, v⟩ => [.own v 3 1 ((filterL (fun k => adj xs n node k) k).length) (ints (filterL (fun k => adj xs n node k) k)), .blk b1 25 [.int .i64 N, va]]) (fun ⟨k, v⟩ => (k : Int) ≤ N) (fun ⟨k, v⟩ => N.toNat - k) (0, .slice none 0 0) ?_ ?_ ?_ ?_
  · show ((0 : Nat) : Int) ≤ _; omega
  · exact ⟨rfl, rfl, trivial⟩
  · exact ((Weak.nilOwn 3 1).trans (Some'.weak (.takeEq rfl (.take (.nil _)))))
  · rintro ⟨k, v⟩ fr hinv
    show Run _ _ (over _ _ [(5, v), (6, .int .i64 (((k : Nat) : Int)))] fr) [.own v 3 1 ((filterL (fun k => adj xs n node k) k).length) (ints (filterL (fun k => adj xs n node k) k)), .blk b1 25 [.int .i64 N, va]]
    try dsimp only at hinv
    refine Run.seq ?_
    refine Run.seq ?_
    refine Run.region ?_
    refine Run.q (v := .int .i64 (((k : Nat) : Int))) rfl (OpQ.y (OpY.pure rfl)) ?_
    refine Run.q (v := .pointer (some ⟨b1, 0, none⟩)) rfl (OpQ.y (OpY.fieldAddr Tfo_25_0 rfl rfl)) ?_
    refine Run.q (v := .int .i64 N) rfl (OpQ.y (OpY.load1 Tone_3 rfl (Cells.blk (.tail _ (List.Mem.head _)) ⟨rfl, trivial⟩))) ?_
    refine Run.q (v := .bool (decide ((((k : Nat) : Int)) < N))) rfl (OpQ.y (OpY.pure rfl)) ?_
    refine Run.done ?_
    refine Run.cond (b := decide ((((k : Nat) : Int)) < N)) rfl (fun h10 => ?_) (fun h10 => ?_)
    · have p10 := h10; try simp only [decide_eq_true_eq, decide_eq_false_iff_not, beq_iff_eq, bne_iff_ne, beq_eq_false_iff_ne, ne_eq, gt_iff_lt, ge_iff_le, Int.not_lt, Int.not_le, bne_eq_false_iff_eq, Bool.not_eq_true', Bool.not_eq_false', Bool.and_eq_true, Bool.and_eq_false_iff, Bool.or_eq_true, Bool.or_eq_false_iff, Decidable.not_not, List.cons.injEq, and_true] at p10
      have hle := filterL_le (fun k => adj xs n node k) k
      refine Run.skip ?_
      refine Run.seq ?_
      refine Run.block ?_
      refine Run.seq ?_
      refine Run.region ?_
      refine Run.q (v := .agg #[.int .i64 N, va]) rfl (OpQ.y (OpY.loadN (cs := [.int .i64 N, va]) Tagg_25 rfl (Cells.blk (.tail _ (List.Mem.head _)) ⟨rfl, rfl, trivial⟩))) ?_
      refine Run.q (v := .int .i64 node) rfl (OpQ.y (OpY.pure rfl)) ?_
      refine Run.q (v := .int .i64 (((k : Nat) : Int))) rfl (OpQ.y (OpY.pure rfl)) ?_
      refine Run.q (v := .bool (adj xs n node (k : Int))) rfl (OpQ.call (vs := [.agg #[.int .i64 N, va], .int .i64 node, .int .i64 (((k : Nat) : Int))]) (caps := []) Tcall_69 rfl rfl (fun w hs => l22Edge_spec (hs.sl ha))) ?_
      refine Run.done ?_
      refine Run.cond (b := adj xs n node (k : Int)) rfl (fun h16 => ?_) (fun h16 => ?_)
      · have p16 := h16; try simp only [decide_eq_true_eq, decide_eq_false_iff_not, beq_iff_eq, bne_iff_ne, beq_eq_false_iff_ne, ne_eq, gt_iff_lt, ge_iff_le, Int.not_lt, Int.not_le, bne_eq_false_iff_eq, Bool.not_eq_true', Bool.not_eq_false', Bool.and_eq_true, Bool.and_eq_false_iff, Bool.or_eq_true, Bool.or_eq_false_iff, Decidable.not_not, List.cons.injEq, and_true] at p16
        refine Run.region ?_
        refine Run.q (v := v) rfl (OpQ.y (OpY.pure rfl)) ?_
        refine Run.q (v := .int .i64 (((k : Nat) : Int))) rfl (OpQ.y (OpY.pure rfl)) ?_
        refine Run.step rfl (OpStep.buildSlice (us := [.int .i64 (((k : Nat) : Int))]) Tsl_34 (by decide) (by decide) ⟨rfl, [.int .i64 (((k : Nat) : Int))], _, rfl, rfl, rfl, rfl⟩ rfl fun b2 => ?_)
        refine Run.step rfl (OpStep.append (H1 := [.own (.slice (some ⟨b2, 0, none⟩) 1 1) 3 1 1 ([.int .i64 (((k : Nat) : Int))])]) (H2 := [.blk b1 25 [.int .i64 N, va]]) (v := v) (u := .slice (some ⟨b2, 0, none⟩) 1 1) (n := (filterL (fun k => adj xs n node k) k).length) (m := 1) (xs := ints (filterL (fun k => adj xs n node k) k)) (ys := [.int .i64 (((k : Nat) : Int))]) Tsl_34 (by decide) rfl rfl rfl rfl (fun w hs => hs.slOwn (.head _)) (by simp [Value.oneCell']) (by first | omega | (simp only [List.length_append, List.length_cons, List.length_nil]; omega)) (by simp only [maxLen]; first | omega | (simp only [List.length_append, List.length_cons, List.length_nil]; omega)) fun av1 hnav1 => ?_)
        refine Run.weak (H' := [.own (.slice (some ⟨b2, 0, none⟩) 1 1) 3 1 1 ([.int .i64 (((k : Nat) : Int))]), .own av1 3 1 ((filterL (fun k => adj xs n node k) k ++ [(k : Int)]).length) (ints (filterL (fun k => adj xs n node k) k ++ [(k : Int)])), .blk b1 25 [.int .i64 N, va]]) (Some'.weak (.take (.takeEq (by simp [ints, List.append_assoc, Nat.add_assoc]) (.take (.nil _))))) ?_ ⟨_, _, rfl, fun _ => nofun, fun _ => nofun⟩
        refine Run.q (v := av1) rfl (OpQ.y (OpY.pure rfl)) ?_
        refine Run.done ?_
        refine Run.blockEnd ?_
        refine Run.region ?_
        refine Run.q (v := .int .i64 (((k : Nat) : Int))) rfl (OpQ.y (OpY.pure rfl)) ?_
        refine Run.q (v := .int .i64 ((((k : Nat) : Int)) + 1)) rfl (OpQ.y (OpY.add rfl rfl rfl (by omega) (by omega))) ?_
        refine Run.q (v := .int .i64 ((((k : Nat) : Int)) + 1)) rfl (OpQ.y (OpY.pure rfl)) ?_
        refine Run.done ?_
        have hX : filterL (fun k => adj xs n node k) (k + 1) = filterL (fun k => adj xs n node k) k ++ [(k : Int)] := by
          rw [filterL]
          rw [if_pos (by simp_all)]
        refine Run.goal ⟨(by repeat (first | exact Same.refl _ _ | refine Same.put rfl ?_ | refine Same.over rfl rfl ?_)), (k + 1, av1), ?_, ?_, ?_, ?_⟩
        · show ((k + 1 : Nat) : Int) ≤ _; omega
        · show N.toNat - (k + 1) < N.toNat - k; omega
        · exact ⟨(by first | rfl | (congr 1; omega) | simp), (by first | rfl | (congr 1; omega) | simp), trivial⟩
        · exact (Some'.weak (.skip (.takeEq (by first | rw [hX] | rfl) (.take (.nil _)))))
      · have p16 := h16; try simp only [decide_eq_true_eq, decide_eq_false_iff_not, beq_iff_eq, bne_iff_ne, beq_eq_false_iff_ne, ne_eq, gt_iff_lt, ge_iff_le, Int.not_lt, Int.not_le, bne_eq_false_iff_eq, Bool.not_eq_true', Bool.not_eq_false', Bool.and_eq_true, Bool.and_eq_false_iff, Bool.or_eq_true, Bool.or_eq_false_iff, Decidable.not_not, List.cons.injEq, and_true] at p16
        refine Run.skip ?_
        refine Run.blockEnd ?_
        refine Run.region ?_
        refine Run.q (v := .int .i64 (((k : Nat) : Int))) rfl (OpQ.y (OpY.pure rfl)) ?_
        refine Run.q (v := .int .i64 ((((k : Nat) : Int)) + 1)) rfl (OpQ.y (OpY.add rfl rfl rfl (by omega) (by omega))) ?_
        refine Run.q (v := .int .i64 ((((k : Nat) : Int)) + 1)) rfl (OpQ.y (OpY.pure rfl)) ?_
        refine Run.done ?_
        have hX : filterL (fun k => adj xs n node k) (k + 1) = filterL (fun k => adj xs n node k) k := by
          rw [filterL]
          rw [if_neg (by simp_all), List.append_nil]
        refine Run.goal ⟨(by repeat (first | exact Same.refl _ _ | refine Same.put rfl ?_ | refine Same.over rfl rfl ?_)), (k + 1, v), ?_, ?_, ?_, ?_⟩
        · show ((k + 1 : Nat) : Int) ≤ _; omega
        · show N.toNat - (k + 1) < N.toNat - k; omega
        · exact ⟨(by first | rfl | (congr 1; omega) | simp), (by first | rfl | (congr 1; omega) | simp), trivial⟩
        · exact (Some'.weak (.takeEq (by first | rw [hX] | rfl) (.take (.nil _))))
    · have p10 := h10; try simp only [decide_eq_true_eq, decide_eq_false_iff_not, beq_iff_eq, bne_iff_ne, beq_eq_false_iff_ne, ne_eq, gt_iff_lt, ge_iff_le, Int.not_lt, Int.not_le, bne_eq_false_iff_eq, Bool.not_eq_true', Bool.not_eq_false', Bool.and_eq_true, Bool.and_eq_false_iff, Bool.or_eq_true, Bool.or_eq_false_iff, Decidable.not_not, List.cons.injEq, and_true] at p10
      have hkn : k = N.toNat := by omega
      refine Run.exit rfl ?_
      refine Run.seq ?_
      refine Run.region ?_
      refine Run.q (v := v) rfl (OpQ.y (OpY.pure rfl)) ?_
      refine Run.q (v := v) rfl (OpQ.y (OpY.pure rfl)) ?_
      refine Run.done ?_
      refine Run.ret ?_
      refine ⟨v, [.own v 3 1 ((filterL (fun k => adj xs n node k) k).length) (ints (filterL (fun k => adj xs n node k) k))], Out.one rfl rfl, (Some'.weak (.take (.nil _))), ?_⟩
      subst hkn; rfl

set_option maxHeartbeats 1000000 in
set_option maxRecDepth 20000 in
theorem near_spec {N node : Int} {va : Value} {n : Nat} {xs : List Int} {w : World} (hN : 1 ≤ N ∧ N ≤ 8) (he : edgesOk N xs n = true) (ha : Sl w va 2 n (ints xs)) : Calls Try.prog 53 #[.agg #[.int .i64 N, va], .int .i64 node] w (Post No w fun v H => H = [.own v 3 1 (nbL N xs n node).length (ints (nbL N xs n node))]) := by
  refine enter (n := 28) (args := [.agg #[.int .i64 N, va], .int .i64 node]) Try.func53 rfl rfl (St.empty _ _) ?_
  refine Run.seq ?_
  refine Run.region ?_
  refine Run.step rfl (OpStep.box (us := [.int .i64 N, va]) rfl fun b1 => ?_)
  refine Run.q (v := .slice none 0 0) rfl (OpQ.y (OpY.pure rfl)) ?_
  refine Run.done ?_
  refine Run.seq ?_
  refine Run.region ?_
  refine Run.step rfl (OpStep.buildSlice (us := []) Tsl_34 (by decide) (by decide) rfl rfl fun b2 => ?_)
  refine Run.q (v := .slice (some ⟨b2, 0, none⟩) 0 0) rfl (OpQ.y (OpY.pure rfl)) ?_
  refine Run.done ?_
  refine Run.seq ?_
  refine Run.seq ?_
  refine Run.region ?_
  refine Run.q (v := .pointer (some ⟨b1, 0, none⟩)) rfl (OpQ.y (OpY.fieldAddr Tfo_25_0 rfl rfl)) ?_
  refine Run.q (v := .int .i64 N) rfl (OpQ.y (OpY.load1 Tone_3 rfl (Cells.blk (.tail _ (List.Mem.head _)) ⟨rfl, trivial⟩))) ?_
  refine Run.q (v := .int .i64 0) rfl (OpQ.y (OpY.pure rfl)) ?_
  refine Run.done ?_
  refine Run.block ?_
  refine Run.loop (ι := Nat × Value) [5, 6, 10, 11, 12, 13, 14, 15, 16, 17, 18, 19, 20, 21, 22, 23, 24, 25, 26] (fun ⟨k, v⟩ => [(5, v), (10, .int .i64 (((k : Nat) : Int)))]) (fun ⟨k, v⟩ => [.own v 3 1 ((filterL (fun k => adj xs n node k) k).length) (ints (filterL (fun k => adj xs n node k) k)), .blk b1 25 [.int .i64 N, va]]) (fun ⟨k, v⟩ => (k : Int) ≤ N) (fun ⟨k, v⟩ => N.toNat - k) (0, .slice (some ⟨b2, 0, none⟩) 0 0) ?_ ?_ ?_ ?_
  · show ((0 : Nat) : Int) ≤ _; omega
  · exact ⟨rfl, rfl, trivial⟩
  · exact (Some'.weak (.takeEq (by first | rw [hX] | rfl) (.take (.nil _))))
  · rintro ⟨k, v⟩ fr hinv
    show Run _ _ (over _ _ [(5, v), (10, .int .i64 (((k : Nat) : Int)))] fr) [.own v 3 1 ((filterL (fun k => adj xs n node k) k).length) (ints (filterL (fun k => adj xs n node k) k)), .blk b1 25 [.int .i64 N, va]]
    try dsimp only at hinv
    refine Run.seq ?_
    refine Run.region ?_
    refine Run.q (v := .bool (decide ((((k : Nat) : Int)) < N))) rfl (OpQ.y (OpY.pure rfl)) ?_
    refine Run.done ?_
    refine Run.seq ?_
    refine Run.cond (b := decide ((((k : Nat) : Int)) < N)) rfl (fun h11 => ?_) (fun h11 => ?_)
    · have p11 := h11; try simp only [decide_eq_true_eq, decide_eq_false_iff_not, beq_iff_eq, bne_iff_ne, beq_eq_false_iff_ne, ne_eq, gt_iff_lt, ge_iff_le, Int.not_lt, Int.not_le, bne_eq_false_iff_eq, Bool.not_eq_true', Bool.not_eq_false', Bool.and_eq_true, Bool.and_eq_false_iff, Bool.or_eq_true, Bool.or_eq_false_iff, Decidable.not_not, List.cons.injEq, and_true] at p11
      have hle := filterL_le (fun k => adj xs n node k) k
      refine Run.skip ?_
      refine Run.seq ?_
      refine Run.block ?_
      refine Run.seq ?_
      refine Run.region ?_
      refine Run.q (v := .int .i64 (((k : Nat) : Int))) rfl (OpQ.y (OpY.pure rfl)) ?_
      refine Run.q (v := .int .i64 (((k : Nat) : Int))) rfl (OpQ.y (OpY.pure rfl)) ?_
      refine Run.done ?_
      refine Run.seq ?_
      refine Run.region ?_
      refine Run.q (v := .int .i64 (((k : Nat) : Int))) rfl (OpQ.y (OpY.pure rfl)) ?_
      refine Run.q (v := .int .i64 node) rfl (OpQ.y (OpY.pure rfl)) ?_
      refine Run.q (v := .bool ((((k : Nat) : Int)) != node)) rfl (OpQ.y (OpY.pure rfl)) ?_
      rcases Bool.eq_false_or_eq_true ((((k : Nat) : Int)) != node) with h16 | h16
      · refine Run.q (v := .bool true) rfl (OpQ.y (OpY.moveB rfl h16)) ?_
        have p16 := h16; try simp only [decide_eq_true_eq, decide_eq_false_iff_not, beq_iff_eq, bne_iff_ne, beq_eq_false_iff_ne, ne_eq, gt_iff_lt, ge_iff_le, Int.not_lt, Int.not_le, bne_eq_false_iff_eq, Bool.not_eq_true', Bool.not_eq_false', Bool.and_eq_true, Bool.and_eq_false_iff, Bool.or_eq_true, Bool.or_eq_false_iff, Decidable.not_not, List.cons.injEq, and_true] at p16
        refine Run.q (v := .agg #[.int .i64 N, va]) rfl (OpQ.y (OpY.loadN (cs := [.int .i64 N, va]) Tagg_25 rfl (Cells.blk (.tail _ (List.Mem.head _)) ⟨rfl, rfl, trivial⟩))) ?_
        refine Run.q (v := .int .i64 (((k : Nat) : Int))) rfl (OpQ.y (OpY.pure rfl)) ?_
        refine Run.q (v := .int .i64 node) rfl (OpQ.y (OpY.pure rfl)) ?_
        refine Run.q (v := .bool (anyI (joinAt xs (min (k : Int) node) (max (k : Int) node)) n)) rfl (OpQ.call (vs := [.agg #[.int .i64 N, va], .int .i64 (((k : Nat) : Int)), .int .i64 node]) (caps := []) Tcall_67 rfl rfl (fun w hs => joins_spec (hs.sl ha))) ?_
        refine Run.q (v := .bool (anyI (joinAt xs (min (k : Int) node) (max (k : Int) node)) n)) rfl (OpQ.y (OpY.pure rfl)) ?_
        refine Run.done ?_
        refine Run.cond (b := anyI (joinAt xs (min (k : Int) node) (max (k : Int) node)) n) rfl (fun h21 => ?_) (fun h21 => ?_)
        · have p21 := h21; try simp only [decide_eq_true_eq, decide_eq_false_iff_not, beq_iff_eq, bne_iff_ne, beq_eq_false_iff_ne, ne_eq, gt_iff_lt, ge_iff_le, Int.not_lt, Int.not_le, bne_eq_false_iff_eq, Bool.not_eq_true', Bool.not_eq_false', Bool.and_eq_true, Bool.and_eq_false_iff, Bool.or_eq_true, Bool.or_eq_false_iff, Decidable.not_not, List.cons.injEq, and_true] at p21
          refine Run.region ?_
          refine Run.q (v := v) rfl (OpQ.y (OpY.pure rfl)) ?_
          refine Run.q (v := .int .i64 (((k : Nat) : Int))) rfl (OpQ.y (OpY.pure rfl)) ?_
          refine Run.step rfl (OpStep.buildSlice (us := [.int .i64 (((k : Nat) : Int))]) Tsl_34 (by decide) (by decide) ⟨rfl, [.int .i64 (((k : Nat) : Int))], _, rfl, rfl, rfl, rfl⟩ rfl fun b3 => ?_)
          refine Run.step rfl (OpStep.append (H1 := [.own (.slice (some ⟨b3, 0, none⟩) 1 1) 3 1 1 ([.int .i64 (((k : Nat) : Int))])]) (H2 := [.blk b1 25 [.int .i64 N, va]]) (v := v) (u := .slice (some ⟨b3, 0, none⟩) 1 1) (n := (filterL (fun k => adj xs n node k) k).length) (m := 1) (xs := ints (filterL (fun k => adj xs n node k) k)) (ys := [.int .i64 (((k : Nat) : Int))]) Tsl_34 (by decide) rfl rfl rfl rfl (fun w hs => hs.slOwn (.head _)) (by simp [Value.oneCell']) (by first | omega | (simp only [List.length_append, List.length_cons, List.length_nil]; omega)) (by simp only [maxLen]; first | omega | (simp only [List.length_append, List.length_cons, List.length_nil]; omega)) fun av1 hnav1 => ?_)
          refine Run.weak (H' := [.own (.slice (some ⟨b3, 0, none⟩) 1 1) 3 1 1 ([.int .i64 (((k : Nat) : Int))]), .own av1 3 1 ((filterL (fun k => adj xs n node k) k ++ [(k : Int)]).length) (ints (filterL (fun k => adj xs n node k) k ++ [(k : Int)])), .blk b1 25 [.int .i64 N, va]]) (Some'.weak (.take (.takeEq (by simp [ints, List.append_assoc, Nat.add_assoc]) (.take (.nil _))))) ?_ ⟨_, _, rfl, fun _ => nofun, fun _ => nofun⟩
          refine Run.q (v := av1) rfl (OpQ.y (OpY.pure rfl)) ?_
          refine Run.done ?_
          refine Run.blockEnd ?_
          refine Run.region ?_
          refine Run.q (v := .int .i64 ((((k : Nat) : Int)) + 1)) rfl (OpQ.y (OpY.add rfl rfl rfl (by omega) (by omega))) ?_
          refine Run.q (v := .int .i64 ((((k : Nat) : Int)) + 1)) rfl (OpQ.y (OpY.pure rfl)) ?_
          refine Run.done ?_
          have hX : filterL (fun k => adj xs n node k) (k + 1) = filterL (fun k => adj xs n node k) k ++ [(k : Int)] := by
            rw [filterL]
            rw [adj_join he p16] at p21; rw [if_pos (by rw [adj_comm]; exact p21)]
          refine Run.goal ⟨(by repeat (first | exact Same.refl _ _ | refine Same.put rfl ?_ | refine Same.over rfl rfl ?_)), (k + 1, av1), ?_, ?_, ?_, ?_⟩
          · show ((k + 1 : Nat) : Int) ≤ _; omega
          · show N.toNat - (k + 1) < N.toNat - k; omega
          · exact ⟨(by first | rfl | (congr 1; omega) | simp), (by first | rfl | (congr 1; omega) | simp), trivial⟩
          · exact (Some'.weak (.skip (.takeEq (by first | rw [hX] | rfl) (.take (.nil _)))))
        · have p21 := h21; try simp only [decide_eq_true_eq, decide_eq_false_iff_not, beq_iff_eq, bne_iff_ne, beq_eq_false_iff_ne, ne_eq, gt_iff_lt, ge_iff_le, Int.not_lt, Int.not_le, bne_eq_false_iff_eq, Bool.not_eq_true', Bool.not_eq_false', Bool.and_eq_true, Bool.and_eq_false_iff, Bool.or_eq_true, Bool.or_eq_false_iff, Decidable.not_not, List.cons.injEq, and_true] at p21
          refine Run.skip ?_
          refine Run.blockEnd ?_
          refine Run.region ?_
          refine Run.q (v := .int .i64 ((((k : Nat) : Int)) + 1)) rfl (OpQ.y (OpY.add rfl rfl rfl (by omega) (by omega))) ?_
          refine Run.q (v := .int .i64 ((((k : Nat) : Int)) + 1)) rfl (OpQ.y (OpY.pure rfl)) ?_
          refine Run.done ?_
          have hX : filterL (fun k => adj xs n node k) (k + 1) = filterL (fun k => adj xs n node k) k := by
            rw [filterL]
            rw [if_neg (by first | (rw [p16, adj_self he]; decide) | (rw [adj_join he p16] at p21; rw [adj_comm, p21]; decide)), List.append_nil]
          refine Run.goal ⟨(by repeat (first | exact Same.refl _ _ | refine Same.put rfl ?_ | refine Same.over rfl rfl ?_)), (k + 1, v), ?_, ?_, ?_, ?_⟩
          · show ((k + 1 : Nat) : Int) ≤ _; omega
          · show N.toNat - (k + 1) < N.toNat - k; omega
          · exact ⟨(by first | rfl | (congr 1; omega) | simp), (by first | rfl | (congr 1; omega) | simp), trivial⟩
          · exact (Some'.weak (.takeEq (by first | rw [hX] | rfl) (.take (.nil _))))
      · refine Run.q (v := .bool false) rfl (OpQ.y (OpY.moveB rfl h16)) ?_
        have p16 := h16; try simp only [decide_eq_true_eq, decide_eq_false_iff_not, beq_iff_eq, bne_iff_ne, beq_eq_false_iff_ne, ne_eq, gt_iff_lt, ge_iff_le, Int.not_lt, Int.not_le, bne_eq_false_iff_eq, Bool.not_eq_true', Bool.not_eq_false', Bool.and_eq_true, Bool.and_eq_false_iff, Bool.or_eq_true, Bool.or_eq_false_iff, Decidable.not_not, List.cons.injEq, and_true] at p16
        refine Run.pass rfl ?_
        refine Run.pass rfl ?_
        refine Run.pass rfl ?_
        refine Run.pass rfl ?_
        refine Run.q (v := .bool false) rfl (OpQ.y (OpY.pure rfl)) ?_
        refine Run.done ?_
        refine Run.cond (b := false) rfl (fun h => nomatch h) (fun _ => ?_)
        refine Run.skip ?_
        refine Run.blockEnd ?_
        refine Run.region ?_
        refine Run.q (v := .int .i64 ((((k : Nat) : Int)) + 1)) rfl (OpQ.y (OpY.add rfl rfl rfl (by omega) (by omega))) ?_
        refine Run.q (v := .int .i64 ((((k : Nat) : Int)) + 1)) rfl (OpQ.y (OpY.pure rfl)) ?_
        refine Run.done ?_
        have hX : filterL (fun k => adj xs n node k) (k + 1) = filterL (fun k => adj xs n node k) k := by
          rw [filterL]
          rw [if_neg (by first | (rw [p16, adj_self he]; decide) | (rw [adj_join he p16] at p21; rw [adj_comm, p21]; decide)), List.append_nil]
        refine Run.goal ⟨(by repeat (first | exact Same.refl _ _ | refine Same.put rfl ?_ | refine Same.over rfl rfl ?_)), (k + 1, v), ?_, ?_, ?_, ?_⟩
        · show ((k + 1 : Nat) : Int) ≤ _; omega
        · show N.toNat - (k + 1) < N.toNat - k; omega
        · exact ⟨(by first | rfl | (congr 1; omega) | simp), (by first | rfl | (congr 1; omega) | simp), trivial⟩
        · exact (Some'.weak (.takeEq (by first | rw [hX] | rfl) (.take (.nil _))))
    · have p11 := h11; try simp only [decide_eq_true_eq, decide_eq_false_iff_not, beq_iff_eq, bne_iff_ne, beq_eq_false_iff_ne, ne_eq, gt_iff_lt, ge_iff_le, Int.not_lt, Int.not_le, bne_eq_false_iff_eq, Bool.not_eq_true', Bool.not_eq_false', Bool.and_eq_true, Bool.and_eq_false_iff, Bool.or_eq_true, Bool.or_eq_false_iff, Decidable.not_not, List.cons.injEq, and_true] at p11
      have hkn : k = N.toNat := by omega
      refine Run.exit rfl ?_
      refine Run.seq ?_
      refine Run.region ?_
      refine Run.q (v := v) rfl (OpQ.y (OpY.pure rfl)) ?_
      refine Run.q (v := v) rfl (OpQ.y (OpY.pure rfl)) ?_
      refine Run.done ?_
      refine Run.ret ?_
      refine ⟨v, [.own v 3 1 ((filterL (fun k => adj xs n node k) k).length) (ints (filterL (fun k => adj xs n node k) k))], Out.one rfl rfl, (Some'.weak (.take (.nil _))), ?_⟩
      subst hkn; rfl


def nbOk (N : Int) (xs : List Int) (n : Nat) (node : Int) : Bool := cgOk N xs n && within node 0 (N - 1)
def nbR (N : Int) (xs : List Int) (n : Nat) (node : Int) : List Int := if nbOk N xs n node then nbL N xs n node else []
theorem nbR_le (N : Int) (xs : List Int) (n : Nat) (node : Int) : (nbR N xs n node).length ≤ 8 := by
  unfold nbR; split
  · rename_i h
    simp only [nbOk, Bool.and_eq_true] at h
    have := cgOk_N h.1
    have := filterL_le (fun k => adj xs n node k) N.toNat
    simp only [nbL]; omega
  · simp

set_option maxHeartbeats 1000000 in
set_option maxRecDepth 20000 in
theorem NeighborsOf_spec {N node : Int} {va : Value} {n : Nat} {xs : List Int} {w : World} (ha : Sl w va 2 n (ints xs)) : Calls Try.prog 23 #[.agg #[.int .i64 N, va], .int .i64 node] w (Post No w fun v H => ∃ u, v = .tuple #[u, .bool (nbOk N xs n node)] ∧ H = [.own u 3 1 (nbR N xs n node).length (ints (nbR N xs n node))]) := by
  refine enter (n := 20) (args := [.agg #[.int .i64 N, va], .int .i64 node]) Try.func23 rfl rfl (St.empty _ _) ?_
  refine Run.seq ?_
  refine Run.region ?_
  refine Run.step rfl (OpStep.box (us := [.int .i64 N, va]) rfl fun b1 => ?_)
  refine Run.q (v := .slice none 0 0) rfl (OpQ.y (OpY.pure rfl)) ?_
  refine Run.q (v := .bool false) rfl (OpQ.y (OpY.pure rfl)) ?_
  refine Run.done ?_
  refine Run.seq ?_
  refine Run.seq ?_
  refine Run.region ?_
  refine Run.q (v := .agg #[.int .i64 N, va]) rfl (OpQ.y (OpY.loadN (cs := [.int .i64 N, va]) Tagg_25 rfl (Cells.blk (.head _) ⟨rfl, rfl, trivial⟩))) ?_
  refine Run.q (v := .bool (cgOk N xs n)) rfl (OpQ.call (vs := [.agg #[.int .i64 N, va]]) (caps := []) Tcall_14 rfl rfl (fun w hs => IsValidCouplingGraph_spec (hs.sl ha))) ?_
  refine Run.q (v := .bool (!(cgOk N xs n))) rfl (OpQ.y (OpY.pure rfl)) ?_
  rcases Bool.eq_false_or_eq_true (!(cgOk N xs n)) with h9 | h9
  · refine Run.q (v := .bool true) rfl (OpQ.y (OpY.moveB rfl h9)) ?_
    have p9 := h9; try simp only [decide_eq_true_eq, decide_eq_false_iff_not, beq_iff_eq, bne_iff_ne, beq_eq_false_iff_ne, ne_eq, gt_iff_lt, ge_iff_le, Int.not_lt, Int.not_le, bne_eq_false_iff_eq, Bool.not_eq_true', Bool.not_eq_false', Bool.and_eq_true, Bool.and_eq_false_iff, Bool.or_eq_true, Bool.or_eq_false_iff, Decidable.not_not, List.cons.injEq, and_true] at p9
    refine Run.pass rfl ?_
    refine Run.pass rfl ?_
    refine Run.pass rfl ?_
    refine Run.pass rfl ?_
    refine Run.pass rfl ?_
    refine Run.pass rfl ?_
    refine Run.q (v := .bool true) rfl (OpQ.y (OpY.pure rfl)) ?_
    refine Run.done ?_
    refine Run.cond (b := true) rfl (fun _ => ?_) (fun h => nomatch h)
    refine Run.seq ?_
    refine Run.region ?_
    refine Run.q (v := .slice none 0 0) rfl (OpQ.y (OpY.pure rfl)) ?_
    refine Run.q (v := .bool false) rfl (OpQ.y (OpY.pure rfl)) ?_
    refine Run.done ?_
    refine Run.ret ?_
    refine ⟨.tuple #[.slice none 0 0, .bool false], [.own (.slice none 0 0) 3 1 0 ([])], Out.two rfl rfl rfl, ((Weak.nilOwn 3 1).trans (Some'.weak (.take (.nil _)))), ?_⟩
    have hok : nbOk N xs n node = false := by simp_all [nbOk]
    exact ⟨_, by rw [hok], by simp [nbR, hok, ints]⟩
  · refine Run.q (v := .bool false) rfl (OpQ.y (OpY.moveB rfl h9)) ?_
    have p9 := h9; try simp only [decide_eq_true_eq, decide_eq_false_iff_not, beq_iff_eq, bne_iff_ne, beq_eq_false_iff_ne, ne_eq, gt_iff_lt, ge_iff_le, Int.not_lt, Int.not_le, bne_eq_false_iff_eq, Bool.not_eq_true', Bool.not_eq_false', Bool.and_eq_true, Bool.and_eq_false_iff, Bool.or_eq_true, Bool.or_eq_false_iff, Decidable.not_not, List.cons.injEq, and_true] at p9
    have hcg : cgOk N xs n = true := by simpa using p9
    have hcN := cgOk_N hcg
    refine Run.q (v := .int .i64 node) rfl (OpQ.y (OpY.pure rfl)) ?_
    refine Run.q (v := .pointer (some ⟨b1, 0, none⟩)) rfl (OpQ.y (OpY.fieldAddr Tfo_25_0 rfl rfl)) ?_
    refine Run.q (v := .int .i64 N) rfl (OpQ.y (OpY.load1 Tone_3 rfl (Cells.blk (.head _) ⟨rfl, trivial⟩))) ?_
    refine Run.q (v := .int .i64 (N - 1)) rfl (OpQ.y (OpY.sub rfl rfl rfl (by omega) (by omega))) ?_
    refine Run.q (v := .bool (within node 0 (N - 1))) rfl (OpQ.call (vs := [.int .i64 node, .int .i64 0, .int .i64 (N - 1)]) (caps := []) Tcall_39 rfl rfl (fun w hs => within_spec _ _ _ w)) ?_
    refine Run.q (v := .bool (!(within node 0 (N - 1)))) rfl (OpQ.y (OpY.pure rfl)) ?_
    refine Run.q (v := .bool (!(within node 0 (N - 1)))) rfl (OpQ.y (OpY.pure rfl)) ?_
    refine Run.done ?_
    refine Run.cond (b := !(within node 0 (N - 1))) rfl (fun h16 => ?_) (fun h16 => ?_)
    · have p16 := h16; try simp only [decide_eq_true_eq, decide_eq_false_iff_not, beq_iff_eq, bne_iff_ne, beq_eq_false_iff_ne, ne_eq, gt_iff_lt, ge_iff_le, Int.not_lt, Int.not_le, bne_eq_false_iff_eq, Bool.not_eq_true', Bool.not_eq_false', Bool.and_eq_true, Bool.and_eq_false_iff, Bool.or_eq_true, Bool.or_eq_false_iff, Decidable.not_not, List.cons.injEq, and_true] at p16
      refine Run.seq ?_
      refine Run.region ?_
      refine Run.q (v := .slice none 0 0) rfl (OpQ.y (OpY.pure rfl)) ?_
      refine Run.q (v := .bool false) rfl (OpQ.y (OpY.pure rfl)) ?_
      refine Run.done ?_
      refine Run.ret ?_
      refine ⟨.tuple #[.slice none 0 0, .bool false], [.own (.slice none 0 0) 3 1 0 ([])], Out.two rfl rfl rfl, ((Weak.nilOwn 3 1).trans (Some'.weak (.take (.nil _)))), ?_⟩
      have hok : nbOk N xs n node = false := by simp_all [nbOk]
      exact ⟨_, by rw [hok], by simp [nbR, hok, ints]⟩
    · have p16 := h16; try simp only [decide_eq_true_eq, decide_eq_false_iff_not, beq_iff_eq, bne_iff_ne, beq_eq_false_iff_ne, ne_eq, gt_iff_lt, ge_iff_le, Int.not_lt, Int.not_le, bne_eq_false_iff_eq, Bool.not_eq_true', Bool.not_eq_false', Bool.and_eq_true, Bool.and_eq_false_iff, Bool.or_eq_true, Bool.or_eq_false_iff, Decidable.not_not, List.cons.injEq, and_true] at p16
      refine Run.skip ?_
      refine Run.seq ?_
      refine Run.region ?_
      refine Run.q (v := .agg #[.int .i64 N, va]) rfl (OpQ.y (OpY.loadN (cs := [.int .i64 N, va]) Tagg_25 rfl (Cells.blk (.head _) ⟨rfl, rfl, trivial⟩))) ?_
      refine Run.q (v := .int .i64 node) rfl (OpQ.y (OpY.pure rfl)) ?_
      refine Run.step rfl (OpStep.call (vs := [.agg #[.int .i64 N, va], .int .i64 node]) (caps := []) Tcall_53 rfl rfl (fun w hs => near_spec hcN (cgOk_edges hcg) (hs.sl ha)) ?_)
      rintro u _ rfl
      show Run _ _ (putF _ _ _ u) [.own u 3 1 ((nbL N xs n node).length) (ints (nbL N xs n node)), .blk b1 25 [.int .i64 N, va]]
      refine Run.q (v := u) rfl (OpQ.y (OpY.pure rfl)) ?_
      refine Run.q (v := .bool true) rfl (OpQ.y (OpY.pure rfl)) ?_
      refine Run.done ?_
      refine Run.ret ?_
      refine ⟨.tuple #[u, .bool true], [.own u 3 1 ((nbL N xs n node).length) (ints (nbL N xs n node))], Out.two rfl rfl rfl, (Some'.weak (.take (.nil _))), ?_⟩
      have hok : nbOk N xs n node = true := by simp_all [nbOk]
      exact ⟨_, by rw [hok], by rw [nbR, if_pos hok]⟩

end Go.Proofs.Ytgghmjijjdboeaa
