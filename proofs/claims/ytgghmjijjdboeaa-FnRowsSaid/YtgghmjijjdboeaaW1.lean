/- Walks: small functions. -/
import Derived.Test.YtgghmjijjdboeaaBase
import Derived.Test.YtgghmjijjdboeaaProg
set_option linter.unusedSimpArgs false
set_option linter.unusedVariables false
namespace Go.Proofs.Ytgghmjijjdboeaa
open Go Go.RowKit
set_option maxHeartbeats 1000000 in
set_option maxRecDepth 20000 in
theorem within_spec (x lo hi : Int) (w : World) : Calls Try.prog 39 #[.int .i64 x, .int .i64 lo, .int .i64 hi] w (Post No w fun v _ => v = .bool (within x lo hi)) := by
  refine enter (n := 15) (args := [.int .i64 x, .int .i64 lo, .int .i64 hi]) Try.func39 rfl rfl (St.empty _ _) ?_
  refine Run.seq ?_
  refine Run.region ?_
  refine Run.q (v := .bool false) rfl (OpQ.y (OpY.pure rfl)) ?_
  refine Run.done ?_
  refine Run.seq ?_
  refine Run.region ?_
  refine Run.q (v := .int .i64 lo) rfl (OpQ.y (OpY.pure rfl)) ?_
  refine Run.q (v := .int .i64 x) rfl (OpQ.y (OpY.pure rfl)) ?_
  refine Run.q (v := .bool (decide (lo ≤ x))) rfl (OpQ.y (OpY.pure rfl)) ?_
  rcases Bool.eq_false_or_eq_true (decide (lo ≤ x)) with h10 | h10
  · refine Run.q (v := .bool true) rfl (OpQ.y (OpY.moveB rfl h10)) ?_
    have p10 := h10; try simp only [decide_eq_true_eq, decide_eq_false_iff_not, beq_iff_eq, bne_iff_ne, beq_eq_false_iff_ne, ne_eq, gt_iff_lt, ge_iff_le, Int.not_lt, Int.not_le, bne_eq_false_iff_eq, Bool.not_eq_true', Bool.not_eq_false', Bool.and_eq_true, Bool.and_eq_false_iff, Bool.or_eq_true, Bool.or_eq_false_iff, Decidable.not_not, List.cons.injEq, and_true] at p10
    refine Run.q (v := .int .i64 x) rfl (OpQ.y (OpY.pure rfl)) ?_
    refine Run.q (v := .int .i64 hi) rfl (OpQ.y (OpY.pure rfl)) ?_
    refine Run.q (v := .bool (decide (x ≤ hi))) rfl (OpQ.y (OpY.pure rfl)) ?_
    refine Run.q (v := .bool (decide (x ≤ hi))) rfl (OpQ.y (OpY.pure rfl)) ?_
    refine Run.q (v := .bool (decide (x ≤ hi))) rfl (OpQ.y (OpY.pure rfl)) ?_
    refine Run.done ?_
    refine Run.ret ?_
    refine ⟨.bool (decide (x ≤ hi)), [], Out.one rfl rfl, (Some'.weak (.nil _)), ?_⟩
    show _ = _; simp [within, *]
  · refine Run.q (v := .bool false) rfl (OpQ.y (OpY.moveB rfl h10)) ?_
    have p10 := h10; try simp only [decide_eq_true_eq, decide_eq_false_iff_not, beq_iff_eq, bne_iff_ne, beq_eq_false_iff_ne, ne_eq, gt_iff_lt, ge_iff_le, Int.not_lt, Int.not_le, bne_eq_false_iff_eq, Bool.not_eq_true', Bool.not_eq_false', Bool.and_eq_true, Bool.and_eq_false_iff, Bool.or_eq_true, Bool.or_eq_false_iff, Decidable.not_not, List.cons.injEq, and_true] at p10
    refine Run.pass rfl ?_
    refine Run.pass rfl ?_
    refine Run.pass rfl ?_
    refine Run.q (v := .bool false) rfl (OpQ.y (OpY.pure rfl)) ?_
    refine Run.q (v := .bool false) rfl (OpQ.y (OpY.pure rfl)) ?_
    refine Run.done ?_
    refine Run.ret ?_
    refine ⟨.bool false, [], Out.one rfl rfl, (Some'.weak (.nil _)), ?_⟩
    show _ = _; simp [within, *]

set_option maxHeartbeats 1000000 in
set_option maxRecDepth 20000 in
theorem l1In_spec (x lo hi : Int) (w : World) : Calls Try.prog 41 #[.int .i64 x, .int .i64 lo, .int .i64 hi] w (Post No w fun v _ => v = .bool (within x lo hi)) := by
  refine enter (n := 15) (args := [.int .i64 x, .int .i64 lo, .int .i64 hi]) Try.func41 rfl rfl (St.empty _ _) ?_
  refine Run.seq ?_
  refine Run.region ?_
  refine Run.q (v := .bool false) rfl (OpQ.y (OpY.pure rfl)) ?_
  refine Run.done ?_
  refine Run.seq ?_
  refine Run.region ?_
  refine Run.q (v := .int .i64 x) rfl (OpQ.y (OpY.pure rfl)) ?_
  refine Run.q (v := .int .i64 lo) rfl (OpQ.y (OpY.pure rfl)) ?_
  refine Run.q (v := .bool (decide (x ≥ lo))) rfl (OpQ.y (OpY.pure rfl)) ?_
  rcases Bool.eq_false_or_eq_true (decide (x ≥ lo)) with h10 | h10
  · refine Run.q (v := .bool true) rfl (OpQ.y (OpY.moveB rfl h10)) ?_
    have p10 := h10; try simp only [decide_eq_true_eq, decide_eq_false_iff_not, beq_iff_eq, bne_iff_ne, beq_eq_false_iff_ne, ne_eq, gt_iff_lt, ge_iff_le, Int.not_lt, Int.not_le, bne_eq_false_iff_eq, Bool.not_eq_true', Bool.not_eq_false', Bool.and_eq_true, Bool.and_eq_false_iff, Bool.or_eq_true, Bool.or_eq_false_iff, Decidable.not_not, List.cons.injEq, and_true] at p10
    refine Run.q (v := .int .i64 x) rfl (OpQ.y (OpY.pure rfl)) ?_
    refine Run.q (v := .int .i64 hi) rfl (OpQ.y (OpY.pure rfl)) ?_
    refine Run.q (v := .bool (decide (x ≤ hi))) rfl (OpQ.y (OpY.pure rfl)) ?_
    refine Run.q (v := .bool (decide (x ≤ hi))) rfl (OpQ.y (OpY.pure rfl)) ?_
    refine Run.q (v := .bool (decide (x ≤ hi))) rfl (OpQ.y (OpY.pure rfl)) ?_
    refine Run.done ?_
    refine Run.ret ?_
    refine ⟨.bool (decide (x ≤ hi)), [], Out.one rfl rfl, (Some'.weak (.nil _)), ?_⟩
    show _ = _; simp_all [within] <;> omega
  · refine Run.q (v := .bool false) rfl (OpQ.y (OpY.moveB rfl h10)) ?_
    have p10 := h10; try simp only [decide_eq_true_eq, decide_eq_false_iff_not, beq_iff_eq, bne_iff_ne, beq_eq_false_iff_ne, ne_eq, gt_iff_lt, ge_iff_le, Int.not_lt, Int.not_le, bne_eq_false_iff_eq, Bool.not_eq_true', Bool.not_eq_false', Bool.and_eq_true, Bool.and_eq_false_iff, Bool.or_eq_true, Bool.or_eq_false_iff, Decidable.not_not, List.cons.injEq, and_true] at p10
    refine Run.pass rfl ?_
    refine Run.pass rfl ?_
    refine Run.pass rfl ?_
    refine Run.q (v := .bool false) rfl (OpQ.y (OpY.pure rfl)) ?_
    refine Run.q (v := .bool false) rfl (OpQ.y (OpY.pure rfl)) ?_
    refine Run.done ?_
    refine Run.ret ?_
    refine ⟨.bool false, [], Out.one rfl rfl, (Some'.weak (.nil _)), ?_⟩
    show _ = _; simp_all [within] <;> omega

end Go.Proofs.Ytgghmjijjdboeaa
