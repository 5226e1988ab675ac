/- Walks: LayersOf of the program and of the reference. -/
import Derived.Test.YtbpllboldphhiaaLy
import Derived.Test.YtbpllboldphhiaaProg
set_option linter.unusedSimpArgs false
set_option linter.unusedVariables false
namespace Go.Proofs.Ytbpllboldphhiaa
open Go Go.RowKit
namespace LfT
theorem Tagg_31 : aggOf Try.prog 31 = some 2 := by kernel_rfl
theorem Tcall_69 : callable Try.prog 69 = true := by kernel_rfl
theorem Tcall_70 : callable Try.prog 70 = true := by kernel_rfl
theorem Tcall_72 : callable Try.prog 72 = true := by kernel_rfl
theorem Tcall_73 : callable Try.prog 73 = true := by kernel_rfl
end LfT
open LfT

def layR (N : Int) (xs : List Int) (n : Nat) : List Int := if circOk N xs n then deepL incL xs n else []
theorem layR_le (N : Int) (xs : List Int) (n : Nat) : (layR N xs n).length ≤ 400 := by
  unfold layR; split
  · rename_i h; have := circOk_n h; simpa using this
  · simp

set_option maxHeartbeats 1000000 in
set_option maxRecDepth 20000 in
theorem LayersOf_spec {N : Int} {va : Value} {n : Nat} {xs : List Int} {w : World} (ha : Sl w va 3 n (ints xs)) : Calls Try.prog 18 #[.agg #[.int .i64 N, va]] w (Post No w fun v H => ∃ u, v = .tuple #[u, .bool (circOk N xs n)] ∧ H = [.own u 3 1 (layR N xs n).length (ints (layR N xs n))]) := by
  have hxl := ha.len
  have hn := ha.le
  obtain ⟨A, c, rfl, _, _⟩ := ha.form0
  have hi1 := incL_range
  refine enter (n := 9) (args := [.agg #[.int .i64 N, .slice A n c]]) Try.func18 rfl rfl (St.empty _ _) ?_
  refine Run.seq ?_
  refine Run.region ?_
  refine Run.step rfl (OpStep.box (us := [.int .i64 N, .slice A n c]) rfl fun b1 => ?_)
  refine Run.q (v := .slice none 0 0) rfl (OpQ.y (OpY.pure rfl)) ?_
  refine Run.q (v := .bool false) rfl (OpQ.y (OpY.pure rfl)) ?_
  refine Run.done ?_
  refine Run.seq ?_
  refine Run.seq ?_
  refine Run.region ?_
  refine Run.q (v := .agg #[.int .i64 N, .slice A n c]) rfl (OpQ.y (OpY.loadN (cs := [.int .i64 N, .slice A n c]) Tagg_31 rfl (Cells.blk (.head _) ⟨rfl, rfl, trivial⟩))) ?_
  refine Run.q (v := .bool (circOk N xs n)) rfl (OpQ.call (vs := [.agg #[.int .i64 N, .slice A n c]]) (caps := []) Tcall_72 rfl rfl (fun w hs => IsValidCircuit_spec (hs.sl ha))) ?_
  refine Run.q (v := .bool (!(circOk N xs n))) rfl (OpQ.y (OpY.pure rfl)) ?_
  refine Run.done ?_
  refine Run.cond (b := !(circOk N xs n)) rfl (fun h6 => ?_) (fun h6 => ?_)
  · have p6 := h6; try simp only [decide_eq_true_eq, decide_eq_false_iff_not, beq_iff_eq, bne_iff_ne, beq_eq_false_iff_ne, ne_eq, gt_iff_lt, ge_iff_le, Int.not_lt, Int.not_le, bne_eq_false_iff_eq, Bool.not_eq_true', Bool.not_eq_false', Bool.and_eq_true, Bool.and_eq_false_iff, Bool.or_eq_true, Bool.or_eq_false_iff, Decidable.not_not, List.cons.injEq, and_true] at p6
    have hok : circOk N xs n = false := by simpa using p6
    have hr : layR N xs n = [] := by rw [layR, hok]; rfl
    refine Run.seq ?_
    refine Run.region ?_
    refine Run.q (v := .slice none 0 0) rfl (OpQ.y (OpY.pure rfl)) ?_
    refine Run.q (v := .bool false) rfl (OpQ.y (OpY.pure rfl)) ?_
    refine Run.done ?_
    refine Run.ret ?_
    refine ⟨.tuple #[.slice none 0 0, .bool false], [.own (.slice none 0 0) 3 1 ((layR N xs n).length) (ints (layR N xs n))], Out.two rfl rfl rfl, ((Weak.nilOwn 3 1).trans (Some'.weak (.takeEq (by rw [hr]; first | rfl | rw [deepL_length]) (.nil _)))), ?_⟩
    exact ⟨_, by rw [hok], rfl⟩
  · have p6 := h6; try simp only [decide_eq_true_eq, decide_eq_false_iff_not, beq_iff_eq, bne_iff_ne, beq_eq_false_iff_ne, ne_eq, gt_iff_lt, ge_iff_le, Int.not_lt, Int.not_le, bne_eq_false_iff_eq, Bool.not_eq_true', Bool.not_eq_false', Bool.and_eq_true, Bool.and_eq_false_iff, Bool.or_eq_true, Bool.or_eq_false_iff, Decidable.not_not, List.cons.injEq, and_true] at p6
    have hok : circOk N xs n = true := by simpa using p6
    have hr : layR N xs n = deepL incL xs n := by rw [layR, if_pos hok]
    refine Run.skip ?_
    refine Run.seq ?_
    refine Run.region ?_
    refine Run.q (v := .agg #[.int .i64 N, .slice A n c]) rfl (OpQ.y (OpY.loadN (cs := [.int .i64 N, .slice A n c]) Tagg_31 rfl (Cells.blk (.head _) ⟨rfl, rfl, trivial⟩))) ?_
    refine Run.step rfl (OpStep.call (vs := [.agg #[.int .i64 N, .slice A n c]]) (caps := []) Tcall_73 rfl rfl (fun w hs => layers_spec hok (hs.sl ha)) ?_)
    rintro u _ rfl
    show Run _ _ (putF _ _ _ u) [.own u 3 1 n (ints (deepL incL xs n)), .blk b1 31 [.int .i64 N, .slice A n c]]
    refine Run.q (v := u) rfl (OpQ.y (OpY.pure rfl)) ?_
    refine Run.q (v := .bool true) rfl (OpQ.y (OpY.pure rfl)) ?_
    refine Run.done ?_
    refine Run.ret ?_
    refine ⟨.tuple #[u, .bool true], [.own u 3 1 ((layR N xs n).length) (ints (layR N xs n))], Out.two rfl rfl rfl, (Some'.weak (.takeEq (by rw [hr]; first | rfl | rw [deepL_length]) (.nil _))), ?_⟩
    exact ⟨_, by rw [hok], rfl⟩

set_option maxHeartbeats 1000000 in
set_option maxRecDepth 20000 in
theorem sLayersOf_spec {N : Int} {va : Value} {n : Nat} {xs : List Int} {w : World} (ha : Sl w va 3 n (ints xs)) : Calls Try.prog 16 #[.agg #[.int .i64 N, va]] w (Post No w fun v H => ∃ u, v = .tuple #[u, .bool (circOk N xs n)] ∧ H = [.own u 3 1 (layR N xs n).length (ints (layR N xs n))]) := by
  have hxl := ha.len
  have hn := ha.le
  obtain ⟨A, c, rfl, _, _⟩ := ha.form0
  have hi1 := incL_range
  refine enter (n := 9) (args := [.agg #[.int .i64 N, .slice A n c]]) Try.func16 rfl rfl (St.empty _ _) ?_
  refine Run.seq ?_
  refine Run.region ?_
  refine Run.step rfl (OpStep.box (us := [.int .i64 N, .slice A n c]) rfl fun b1 => ?_)
  refine Run.q (v := .slice none 0 0) rfl (OpQ.y (OpY.pure rfl)) ?_
  refine Run.q (v := .bool false) rfl (OpQ.y (OpY.pure rfl)) ?_
  refine Run.done ?_
  refine Run.seq ?_
  refine Run.seq ?_
  refine Run.region ?_
  refine Run.q (v := .agg #[.int .i64 N, .slice A n c]) rfl (OpQ.y (OpY.loadN (cs := [.int .i64 N, .slice A n c]) Tagg_31 rfl (Cells.blk (.head _) ⟨rfl, rfl, trivial⟩))) ?_
  refine Run.q (v := .bool (circOk N xs n)) rfl (OpQ.call (vs := [.agg #[.int .i64 N, .slice A n c]]) (caps := []) Tcall_69 rfl rfl (fun w hs => l4Good_spec (hs.sl ha))) ?_
  refine Run.q (v := .bool (!(circOk N xs n))) rfl (OpQ.y (OpY.pure rfl)) ?_
  refine Run.done ?_
  refine Run.cond (b := !(circOk N xs n)) rfl (fun h6 => ?_) (fun h6 => ?_)
  · have p6 := h6; try simp only [decide_eq_true_eq, decide_eq_false_iff_not, beq_iff_eq, bne_iff_ne, beq_eq_false_iff_ne, ne_eq, gt_iff_lt, ge_iff_le, Int.not_lt, Int.not_le, bne_eq_false_iff_eq, Bool.not_eq_true', Bool.not_eq_false', Bool.and_eq_true, Bool.and_eq_false_iff, Bool.or_eq_true, Bool.or_eq_false_iff, Decidable.not_not, List.cons.injEq, and_true] at p6
    have hok : circOk N xs n = false := by simpa using p6
    have hr : layR N xs n = [] := by rw [layR, hok]; rfl
    refine Run.seq ?_
    refine Run.region ?_
    refine Run.q (v := .slice none 0 0) rfl (OpQ.y (OpY.pure rfl)) ?_
    refine Run.q (v := .bool false) rfl (OpQ.y (OpY.pure rfl)) ?_
    refine Run.done ?_
    refine Run.ret ?_
    refine ⟨.tuple #[.slice none 0 0, .bool false], [.own (.slice none 0 0) 3 1 ((layR N xs n).length) (ints (layR N xs n))], Out.two rfl rfl rfl, ((Weak.nilOwn 3 1).trans (Some'.weak (.takeEq (by rw [hr]; first | rfl | rw [deepL_length]) (.nil _)))), ?_⟩
    exact ⟨_, by rw [hok], rfl⟩
  · have p6 := h6; try simp only [decide_eq_true_eq, decide_eq_false_iff_not, beq_iff_eq, bne_iff_ne, beq_eq_false_iff_ne, ne_eq, gt_iff_lt, ge_iff_le, Int.not_lt, Int.not_le, bne_eq_false_iff_eq, Bool.not_eq_true', Bool.not_eq_false', Bool.and_eq_true, Bool.and_eq_false_iff, Bool.or_eq_true, Bool.or_eq_false_iff, Decidable.not_not, List.cons.injEq, and_true] at p6
    have hok : circOk N xs n = true := by simpa using p6
    have hr : layR N xs n = deepL incL xs n := by rw [layR, if_pos hok]
    refine Run.skip ?_
    refine Run.seq ?_
    refine Run.region ?_
    refine Run.q (v := .agg #[.int .i64 N, .slice A n c]) rfl (OpQ.y (OpY.loadN (cs := [.int .i64 N, .slice A n c]) Tagg_31 rfl (Cells.blk (.head _) ⟨rfl, rfl, trivial⟩))) ?_
    refine Run.step rfl (OpStep.call (vs := [.agg #[.int .i64 N, .slice A n c]]) (caps := []) Tcall_70 rfl rfl (fun w hs => l24Layers_spec hok (hs.sl ha)) ?_)
    rintro u _ rfl
    show Run _ _ (putF _ _ _ u) [.own u 3 1 n (ints (deepL incL xs n)), .blk b1 31 [.int .i64 N, .slice A n c]]
    refine Run.q (v := u) rfl (OpQ.y (OpY.pure rfl)) ?_
    refine Run.q (v := .bool true) rfl (OpQ.y (OpY.pure rfl)) ?_
    refine Run.done ?_
    refine Run.ret ?_
    refine ⟨.tuple #[u, .bool true], [.own u 3 1 ((layR N xs n).length) (ints (layR N xs n))], Out.two rfl rfl rfl, (Some'.weak (.takeEq (by rw [hr]; first | rfl | rw [deepL_length]) (.nil _))), ?_⟩
    exact ⟨_, by rw [hok], rfl⟩

end Go.Proofs.Ytbpllboldphhiaa
