/- The walk of the law FnExactLeastCX. -/
import Derived.Test.YteehfidjofcfmaaSly
import Derived.Test.YteehfidjofcfmaaLie
import Derived.Test.YteehfidjofcfmaaProg
set_option linter.unusedSimpArgs false
set_option linter.unusedVariables false
namespace Go.Proofs.Yteehfidjofcfmaa
open Go Go.RowKit
namespace L22T
theorem Tagg_24 : aggOf Try.prog 24 = some 1 := by kernel_rfl
theorem Tagg_28 : aggOf Try.prog 28 = some 1 := by kernel_rfl
theorem Tbool_4 : Try.prog.underlying 4 = some .bool := by kernel_rfl
theorem Tcall_10 : callable Try.prog 10 = true := by kernel_rfl
theorem Tcall_11 : callable Try.prog 11 = true := by kernel_rfl
theorem Tcall_12 : callable Try.prog 12 = true := by kernel_rfl
theorem Tcall_13 : callable Try.prog 13 = true := by kernel_rfl
theorem Tcall_9 : callable Try.prog 9 = true := by kernel_rfl
theorem Tsize_28 : (Try.prog.info? 28).map (·.size) = some 1 := by kernel_rfl
theorem Tzero_28 : zeroOf Try.prog 28 = some [.slice none 0 0] := by kernel_rfl
end L22T
open L22T
set_option maxHeartbeats 1000000 in
set_option maxRecDepth 20000 in
theorem law_spec {mvRows : Value} {mnRows : Nat} {mxRows : List Int} {w : World} (mhRows : Sl w mvRows 1 mnRows (ints mxRows)) (mwRows : ∀ x ∈ mxRows, In64 x) : Calls Try.prog 3 #[.agg #[mvRows]] w (Post No w fun v _ => v = .bool true) := by
  refine enter (n := 40) (args := [.agg #[mvRows]]) Try.func3 rfl rfl (St.empty _ _) ?_
  refine Run.seq ?_
  refine Run.region ?_
  refine Run.step rfl (OpStep.box (us := [mvRows]) rfl fun b1 => ?_)
  refine Run.q (v := .bool false) rfl (OpQ.y (OpY.pure rfl)) ?_
  refine Run.done ?_
  refine Run.seq ?_
  refine Run.region ?_
  refine Run.q (v := .int .i64 1048576) rfl (OpQ.y (OpY.pure rfl)) ?_
  refine Run.done ?_
  refine Run.seq ?_
  refine Run.region ?_
  refine Run.q (v := .agg #[mvRows]) rfl (OpQ.y (OpY.loadN (cs := [mvRows]) Tagg_24 rfl (Cells.blk (.head _) ⟨rfl, trivial⟩))) ?_
  refine Run.q (v := .int .i64 1048576) rfl (OpQ.y (OpY.pure rfl)) ?_
  refine Run.q (v := .int .i64 (szN 1048576 [mnRows])) rfl (OpQ.call (vs := [.agg #[mvRows], .int .i64 1048576]) (caps := []) Tcall_9 rfl rfl (fun w hs => szLinear_spec (hs.sl mhRows) (by omega) (by omega))) ?_
  refine Run.q (v := .int .i64 (szN 1048576 [mnRows])) rfl (OpQ.y (OpY.pure rfl)) ?_
  refine Run.done ?_
  refine Run.seq ?_
  refine Run.seq ?_
  refine Run.region ?_
  refine Run.q (v := .int .i64 (szN 1048576 [mnRows])) rfl (OpQ.y (OpY.pure rfl)) ?_
  refine Run.q (v := .bool (decide ((szN 1048576 [mnRows]) < 0))) rfl (OpQ.y (OpY.pure rfl)) ?_
  refine Run.done ?_
  refine Run.cond (b := decide ((szN 1048576 [mnRows]) < 0)) rfl (fun h13 => ?_) (fun h13 => ?_)
  · have p13 := h13; try simp only [decide_eq_true_eq, decide_eq_false_iff_not, beq_iff_eq, bne_iff_ne, beq_eq_false_iff_ne, ne_eq, gt_iff_lt, ge_iff_le, Int.not_lt, Int.not_le, bne_eq_false_iff_eq, Bool.not_eq_true', Bool.not_eq_false', Bool.and_eq_true, Bool.and_eq_false_iff, Bool.or_eq_true, Bool.or_eq_false_iff, Decidable.not_not, List.cons.injEq, and_true] at p13
    refine Run.seq ?_
    refine Run.region ?_
    refine Run.q (v := .bool true) rfl (OpQ.y (OpY.pure rfl)) ?_
    refine Run.done ?_
    refine Run.ret ?_
    refine ⟨.bool true, [], Out.one rfl rfl, (Some'.weak (.nil _)), ?_⟩
    rfl
  · have p13 := h13; try simp only [decide_eq_true_eq, decide_eq_false_iff_not, beq_iff_eq, bne_iff_ne, beq_eq_false_iff_ne, ne_eq, gt_iff_lt, ge_iff_le, Int.not_lt, Int.not_le, bne_eq_false_iff_eq, Bool.not_eq_true', Bool.not_eq_false', Bool.and_eq_true, Bool.and_eq_false_iff, Bool.or_eq_true, Bool.or_eq_false_iff, Decidable.not_not, List.cons.injEq, and_true] at p13
    have hz13 := szN_bound (ns := [mnRows]) (l := 1048576) p13
    have hz13mnRows := hz13 mnRows (by simp)
    refine Run.skip ?_
    refine Run.seq ?_
    refine Run.region ?_
    refine Run.q (v := .agg #[mvRows]) rfl (OpQ.y (OpY.loadN (cs := [mvRows]) Tagg_24 rfl (Cells.blk (.head _) ⟨rfl, trivial⟩))) ?_
    refine Run.step rfl (OpStep.call (vs := [.agg #[mvRows]]) (caps := []) Tcall_11 rfl rfl (fun w hs => toLinear_spec (hs.sl mhRows) (by omega)) ?_)
    rintro _ _ ⟨u1, rfl, rfl⟩
    show Run _ _ (putF _ _ _ (.agg #[u1])) [.own u1 3 1 mnRows (ints mxRows), .blk b1 24 [mvRows]]
    refine Run.q (v := .tuple #[.int .i64 ((((slG mnRows mxRows).length : Nat) : Int)), .bool (slB mnRows mxRows)]) rfl (OpQ.call (vs := [.agg #[u1]]) (caps := []) Tcall_10 rfl rfl (fun w hs => sLeastCX_spec (hs.slOwn (.head _)))) ?_
    refine Run.q (v := .tuple #[.int .i64 ((((slG mnRows mxRows).length : Nat) : Int)), .bool (slB mnRows mxRows)]) rfl (OpQ.y (OpY.pure rfl)) ?_
    refine Run.q (v := .int .i64 ((((slG mnRows mxRows).length : Nat) : Int))) rfl (OpQ.y (OpY.pure rfl)) ?_
    refine Run.q (v := .bool (slB mnRows mxRows)) rfl (OpQ.y (OpY.pure rfl)) ?_
    refine Run.q (v := .int .i64 ((((slG mnRows mxRows).length : Nat) : Int))) rfl (OpQ.y (OpY.pure rfl)) ?_
    refine Run.q (v := .bool (slB mnRows mxRows)) rfl (OpQ.y (OpY.pure rfl)) ?_
    refine Run.done ?_
    refine Run.seq ?_
    refine Run.region ?_
    refine Run.q (v := .agg #[mvRows]) rfl (OpQ.y (OpY.loadN (cs := [mvRows]) Tagg_24 rfl (Cells.blk (.tail _ (List.Mem.head _)) ⟨rfl, trivial⟩))) ?_
    refine Run.step rfl (OpStep.call (vs := [.agg #[mvRows]]) (caps := []) Tcall_11 rfl rfl (fun w hs => toLinear_spec (hs.sl mhRows) (by omega)) ?_)
    rintro _ _ ⟨u2, rfl, rfl⟩
    show Run _ _ (putF _ _ _ (.agg #[u2])) [.own u2 3 1 mnRows (ints mxRows), .own u1 3 1 mnRows (ints mxRows), .blk b1 24 [mvRows]]
    refine Run.step rfl (OpStep.alloc (zs := [.slice none 0 0]) Tzero_28 fun b2 => ?_)
    refine Run.formOwn (.tail _ (List.Mem.head _)) (fun A_u21 c_u21 hv hcapc_u21 hmaxc_u21 => ?_) (fun _ _ _ => ⟨nofun, nofun, nofun⟩)
    subst hv
    refine Run.step rfl (OpStep.storeAll (us := [.slice A_u21 mnRows c_u21]) Tsize_28 rfl rfl rfl (.here _) rfl ?_)
    refine Run.done ?_
    refine Run.seq ?_
    refine Run.region ?_
    refine Run.q (v := .agg #[.slice A_u21 mnRows c_u21]) rfl (OpQ.y (OpY.loadN (cs := [.slice A_u21 mnRows c_u21]) Tagg_28 rfl (Cells.blk (.head _) ⟨rfl, trivial⟩))) ?_
    refine Run.q (v := .tuple #[.int .i64 ((((slG mnRows mxRows).length : Nat) : Int)), .bool (slB mnRows mxRows)]) rfl (OpQ.call (vs := [.agg #[.slice A_u21 mnRows c_u21]]) (caps := []) Tcall_12 rfl rfl (fun w hs => LeastCX_spec (hs.slOwn (.tail _ (List.Mem.head _))))) ?_
    refine Run.q (v := .tuple #[.int .i64 ((((slG mnRows mxRows).length : Nat) : Int)), .bool (slB mnRows mxRows)]) rfl (OpQ.y (OpY.pure rfl)) ?_
    refine Run.q (v := .int .i64 ((((slG mnRows mxRows).length : Nat) : Int))) rfl (OpQ.y (OpY.pure rfl)) ?_
    refine Run.q (v := .bool (slB mnRows mxRows)) rfl (OpQ.y (OpY.pure rfl)) ?_
    refine Run.q (v := .int .i64 ((((slG mnRows mxRows).length : Nat) : Int))) rfl (OpQ.y (OpY.pure rfl)) ?_
    refine Run.q (v := .bool (slB mnRows mxRows)) rfl (OpQ.y (OpY.pure rfl)) ?_
    refine Run.done ?_
    refine Run.seq ?_
    refine Run.seq ?_
    refine Run.region ?_
    refine Run.q (v := .int .i64 ((((slG mnRows mxRows).length : Nat) : Int))) rfl (OpQ.y (OpY.pure rfl)) ?_
    refine Run.q (v := .int .i64 ((((slG mnRows mxRows).length : Nat) : Int))) rfl (OpQ.y (OpY.pure rfl)) ?_
    refine Run.q (v := .bool false) rfl (OpQ.y (OpY.neqSame rfl rfl rfl)) ?_
    refine Run.q (v := .bool false) rfl (OpQ.y (OpY.pure rfl)) ?_
    refine Run.q (v := .bool (slB mnRows mxRows)) rfl (OpQ.y (OpY.pure rfl)) ?_
    refine Run.q (v := .bool (slB mnRows mxRows)) rfl (OpQ.y (OpY.pure rfl)) ?_
    refine Run.q (v := .bool false) rfl (OpQ.y (OpY.neqBSame Tbool_4 rfl rfl rfl)) ?_
    refine Run.q (v := .bool false) rfl (OpQ.y (OpY.pure rfl)) ?_
    refine Run.done ?_
    refine Run.cond (b := false) rfl (fun h => nomatch h) (fun _ => ?_)
    refine Run.skip ?_
    refine Run.seq ?_
    refine Run.seq ?_
    refine Run.held (by kernel_rfl) ?_
    refine DW.take (i := 0) (v := .agg #[.slice A_u21 mnRows c_u21]) rfl (by kernel_rfl) (by kernel_rfl) (by kernel_rfl) (fun _ _ _ h => h) (Weak.refl _) rfl (OpY.loadN (cs := [.slice A_u21 mnRows c_u21]) Tagg_28 rfl (Cells.blk (.head _) ⟨rfl, trivial⟩)) ?_
    refine DW.take (i := 1) (v := .agg #[mvRows]) rfl (by kernel_rfl) (by kernel_rfl) (by kernel_rfl) (fun _ _ _ h => h) (Weak.refl _) rfl (OpY.loadN (cs := [mvRows]) Tagg_24 rfl (Cells.blk (.tail _ (.tail _ (.tail _ (List.Mem.head _)))) ⟨rfl, trivial⟩)) ?_
    refine DW.step (i := 2) (by kernel_rfl) rfl rfl (OpStep.call (vs := [.agg #[mvRows]]) (caps := []) Tcall_11 rfl rfl (fun w hs => toLinear_spec (hs.sl mhRows) (by omega)) ?_)
    rintro _ _ ⟨u3, rfl, rfl⟩
    refine ⟨(Some'.weak (.skip (.take (.take (.take (.take (.nil _))))))), ?_⟩
    refine DW.step (i := 3) (by kernel_rfl) rfl rfl (OpStep.q (v := .bool true) (OpQ.call (vs := [.agg #[.slice A_u21 mnRows c_u21], .agg #[u3]]) (caps := []) Tcall_13 rfl rfl (fun w hs => eqLinear_true (hs.slOwn (.tail _ (.tail _ (List.Mem.head _)))) (hs.slOwn (.head _)))) ?_)
    refine ⟨(Some'.weak (.skip (.take (.take (.take (.take (.nil _))))))), ?_⟩
    refine DW.take (i := 4) (v := .bool false) rfl (by kernel_rfl) (by kernel_rfl) (by kernel_rfl) (fun _ _ _ h => h) (Some'.weak (.skip (.take (.take (.take (.take (.nil _))))))) rfl (OpY.pure rfl) ?_
    refine DW.done (by kernel_rfl) ?_
    refine Run.cond (b := false) rfl (fun h => nomatch h) (fun _ => ?_)
    refine Run.skip ?_
    refine Run.seq ?_
    refine Run.region ?_
    refine Run.q (v := .bool true) rfl (OpQ.y (OpY.pure rfl)) ?_
    refine Run.done ?_
    refine Run.ret ?_
    refine ⟨.bool true, [], Out.one rfl rfl, (Some'.weak (.nil _)), ?_⟩
    rfl

end Go.Proofs.Yteehfidjofcfmaa
