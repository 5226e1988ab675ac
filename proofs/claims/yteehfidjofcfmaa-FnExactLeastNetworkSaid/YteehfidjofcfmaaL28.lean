/- The walk of the law FnExactLeastNetwork. -/
import Derived.Test.YteehfidjofcfmaaNwu
import Derived.Test.YteehfidjofcfmaaLie
import Derived.Test.YteehfidjofcfmaaProg
set_option linter.unusedSimpArgs false
set_option linter.unusedVariables false
namespace Go.Proofs.Yteehfidjofcfmaa
open Go Go.RowKit
namespace L28T
theorem Tagg_24 : aggOf Try.prog 24 = some 1 := by kernel_rfl
theorem Tagg_28 : aggOf Try.prog 28 = some 1 := by kernel_rfl
theorem Tbool_4 : Try.prog.underlying 4 = some .bool := by kernel_rfl
theorem Tcall_11 : callable Try.prog 11 = true := by kernel_rfl
theorem Tcall_13 : callable Try.prog 13 = true := by kernel_rfl
theorem Tcall_14 : callable Try.prog 14 = true := by kernel_rfl
theorem Tcall_15 : callable Try.prog 15 = true := by kernel_rfl
theorem Tcall_16 : callable Try.prog 16 = true := by kernel_rfl
theorem Tcall_17 : callable Try.prog 17 = true := by kernel_rfl
theorem Tcall_9 : callable Try.prog 9 = true := by kernel_rfl
theorem Tsize_28 : (Try.prog.info? 28).map (·.size) = some 1 := by kernel_rfl
theorem Tsl_22 : sliceOf Try.prog 22 = some (3, 1, 8, [.int .i64 0]) := by kernel_rfl
theorem Tzero_28 : zeroOf Try.prog 28 = some [.slice none 0 0] := by kernel_rfl
end L28T
open L28T
set_option maxHeartbeats 1000000 in
set_option maxRecDepth 20000 in
theorem law_spec {mvRows : Value} {mnRows : Nat} {mxRows : List Int} {kv : Value} {kn : Nat} {kx : List Int} {w : World} (mhRows : Sl w mvRows 1 mnRows (ints mxRows)) (mwRows : ∀ x ∈ mxRows, In64 x) (kh : Sl w kv 1 kn (ints kx)) (kw : ∀ x ∈ kx, In64 x) : Calls Try.prog 4 #[.agg #[mvRows], kv] w (Post No w fun v _ => v = .bool true) := by
  obtain ⟨kA, kc, rfl, _, _⟩ := kh.form0
  refine enter (n := 56) (args := [.agg #[mvRows], .slice kA kn kc]) Try.func4 rfl rfl (St.empty _ _) ?_
  refine Run.seq ?_
  refine Run.region ?_
  refine Run.step rfl (OpStep.box (us := [mvRows]) rfl fun b1 => ?_)
  refine Run.q (v := .bool false) rfl (OpQ.y (OpY.pure rfl)) ?_
  refine Run.done ?_
  refine Run.seq ?_
  refine Run.seq ?_
  refine Run.region ?_
  refine Run.q (v := .slice kA kn kc) rfl (OpQ.y (OpY.pure rfl)) ?_
  refine Run.q (v := .int .i64 (((kn : Nat) : Int))) rfl (OpQ.y (OpY.len Tsl_22 rfl)) ?_
  refine Run.q (v := .bool (decide ((((kn : Nat) : Int)) > 1048576))) rfl (OpQ.y (OpY.pure rfl)) ?_
  refine Run.done ?_
  refine Run.cond (b := decide ((((kn : Nat) : Int)) > 1048576)) rfl (fun h14 => ?_) (fun h14 => ?_)
  · have p14 := h14; try simp only [decide_eq_true_eq, decide_eq_false_iff_not, beq_iff_eq, bne_iff_ne, beq_eq_false_iff_ne, ne_eq, gt_iff_lt, ge_iff_le, Int.not_lt, Int.not_le, bne_eq_false_iff_eq, Bool.not_eq_true', Bool.not_eq_false', Bool.and_eq_true, Bool.and_eq_false_iff, Bool.or_eq_true, Bool.or_eq_false_iff, Decidable.not_not, List.cons.injEq, and_true] at p14
    refine Run.seq ?_
    refine Run.region ?_
    refine Run.q (v := .bool true) rfl (OpQ.y (OpY.pure rfl)) ?_
    refine Run.done ?_
    refine Run.ret ?_
    refine ⟨.bool true, [], Out.one rfl rfl, (Some'.weak (.nil _)), ?_⟩
    rfl
  · have p14 := h14; try simp only [decide_eq_true_eq, decide_eq_false_iff_not, beq_iff_eq, bne_iff_ne, beq_eq_false_iff_ne, ne_eq, gt_iff_lt, ge_iff_le, Int.not_lt, Int.not_le, bne_eq_false_iff_eq, Bool.not_eq_true', Bool.not_eq_false', Bool.and_eq_true, Bool.and_eq_false_iff, Bool.or_eq_true, Bool.or_eq_false_iff, Decidable.not_not, List.cons.injEq, and_true] at p14
    refine Run.skip ?_
    refine Run.seq ?_
    refine Run.region ?_
    refine Run.q (v := .int .i64 1048576) rfl (OpQ.y (OpY.pure rfl)) ?_
    refine Run.done ?_
    refine Run.seq ?_
    refine Run.region ?_
    refine Run.q (v := .agg #[mvRows]) rfl (OpQ.y (OpY.loadN (cs := [mvRows]) Tagg_24 rfl (Cells.blk (.head _) ⟨rfl, trivial⟩))) ?_
    refine Run.q (v := .int .i64 1048576) rfl (OpQ.y (OpY.pure rfl)) ?_
    refine Run.q (v := .int .i64 (szN 1048576 [mnRows])) rfl (OpQ.call (vs := [.agg #[mvRows], .int .i64 1048576]) (caps := []) Tcall_9 rfl rfl (fun w hs => szLinear_spec (hs.sl mhRows) (by omega) (by omega))) ?_
    refine Run.q (v := .int .i64 (szN 1048576 [mnRows])) rfl (OpQ.y (OpY.pure rfl)) ?_
    refine Run.done ?_
    refine Run.seq ?_
    refine Run.seq ?_
    refine Run.region ?_
    refine Run.q (v := .int .i64 (szN 1048576 [mnRows])) rfl (OpQ.y (OpY.pure rfl)) ?_
    refine Run.q (v := .bool (decide ((szN 1048576 [mnRows]) < 0))) rfl (OpQ.y (OpY.pure rfl)) ?_
    refine Run.done ?_
    refine Run.cond (b := decide ((szN 1048576 [mnRows]) < 0)) rfl (fun h19 => ?_) (fun h19 => ?_)
    · have p19 := h19; try simp only [decide_eq_true_eq, decide_eq_false_iff_not, beq_iff_eq, bne_iff_ne, beq_eq_false_iff_ne, ne_eq, gt_iff_lt, ge_iff_le, Int.not_lt, Int.not_le, bne_eq_false_iff_eq, Bool.not_eq_true', Bool.not_eq_false', Bool.and_eq_true, Bool.and_eq_false_iff, Bool.or_eq_true, Bool.or_eq_false_iff, Decidable.not_not, List.cons.injEq, and_true] at p19
      refine Run.seq ?_
      refine Run.region ?_
      refine Run.q (v := .bool true) rfl (OpQ.y (OpY.pure rfl)) ?_
      refine Run.done ?_
      refine Run.ret ?_
      refine ⟨.bool true, [], Out.one rfl rfl, (Some'.weak (.nil _)), ?_⟩
      rfl
    · have p19 := h19; try simp only [decide_eq_true_eq, decide_eq_false_iff_not, beq_iff_eq, bne_iff_ne, beq_eq_false_iff_ne, ne_eq, gt_iff_lt, ge_iff_le, Int.not_lt, Int.not_le, bne_eq_false_iff_eq, Bool.not_eq_true', Bool.not_eq_false', Bool.and_eq_true, Bool.and_eq_false_iff, Bool.or_eq_true, Bool.or_eq_false_iff, Decidable.not_not, List.cons.injEq, and_true] at p19
      have hz19 := szN_bound (ns := [mnRows]) (l := 1048576) p19
      have hz19mnRows := hz19 mnRows (by simp)
      refine Run.skip ?_
      refine Run.seq ?_
      refine Run.region ?_
      refine Run.q (v := .agg #[mvRows]) rfl (OpQ.y (OpY.loadN (cs := [mvRows]) Tagg_24 rfl (Cells.blk (.head _) ⟨rfl, trivial⟩))) ?_
      refine Run.step rfl (OpStep.call (vs := [.agg #[mvRows]]) (caps := []) Tcall_11 rfl rfl (fun w hs => toLinear_spec (hs.sl mhRows) (by omega)) ?_)
      rintro _ _ ⟨u1, rfl, rfl⟩
      show Run _ _ (putF _ _ _ (.agg #[u1])) [.own u1 3 1 mnRows (ints mxRows), .blk b1 24 [mvRows]]
      refine Run.q (v := .slice kA kn kc) rfl (OpQ.y (OpY.pure rfl)) ?_
      refine Run.step rfl (OpStep.call (vs := [.slice kA kn kc]) (caps := []) Tcall_15 rfl rfl (fun w hs => toIntS_spec (hs.sl kh) (by omega)) ?_)
      rintro u2 _ rfl
      show Run _ _ (putF _ _ _ u2) [.own u2 3 1 kn (ints kx), .own u1 3 1 mnRows (ints mxRows), .blk b1 24 [mvRows]]
      refine Run.q (v := .tuple #[.int .i64 ((((nwG mnRows mxRows kx).length : Nat) : Int)), .bool (nwB mnRows mxRows kx)]) rfl (OpQ.call (vs := [.agg #[u1], u2]) (caps := []) Tcall_14 rfl rfl (fun w hs => sLeastNetwork_spec (hs.slOwn (.tail _ (List.Mem.head _))) (hs.slOwn (.head _)))) ?_
      refine Run.q (v := .tuple #[.int .i64 ((((nwG mnRows mxRows kx).length : Nat) : Int)), .bool (nwB mnRows mxRows kx)]) rfl (OpQ.y (OpY.pure rfl)) ?_
      refine Run.q (v := .int .i64 ((((nwG mnRows mxRows kx).length : Nat) : Int))) rfl (OpQ.y (OpY.pure rfl)) ?_
      refine Run.q (v := .bool (nwB mnRows mxRows kx)) rfl (OpQ.y (OpY.pure rfl)) ?_
      refine Run.q (v := .int .i64 ((((nwG mnRows mxRows kx).length : Nat) : Int))) rfl (OpQ.y (OpY.pure rfl)) ?_
      refine Run.q (v := .bool (nwB mnRows mxRows kx)) rfl (OpQ.y (OpY.pure rfl)) ?_
      refine Run.done ?_
      refine Run.seq ?_
      refine Run.region ?_
      refine Run.q (v := .agg #[mvRows]) rfl (OpQ.y (OpY.loadN (cs := [mvRows]) Tagg_24 rfl (Cells.blk (.tail _ (.tail _ (List.Mem.head _))) ⟨rfl, trivial⟩))) ?_
      refine Run.step rfl (OpStep.call (vs := [.agg #[mvRows]]) (caps := []) Tcall_11 rfl rfl (fun w hs => toLinear_spec (hs.sl mhRows) (by omega)) ?_)
      rintro _ _ ⟨u3, rfl, rfl⟩
      show Run _ _ (putF _ _ _ (.agg #[u3])) [.own u3 3 1 mnRows (ints mxRows), .own u2 3 1 kn (ints kx), .own u1 3 1 mnRows (ints mxRows), .blk b1 24 [mvRows]]
      refine Run.step rfl (OpStep.alloc (zs := [.slice none 0 0]) Tzero_28 fun b2 => ?_)
      refine Run.formOwn (.tail _ (List.Mem.head _)) (fun A_u31 c_u31 hv hcapc_u31 hmaxc_u31 => ?_) (fun _ _ _ => ⟨nofun, nofun, nofun⟩)
      subst hv
      refine Run.step rfl (OpStep.storeAll (us := [.slice A_u31 mnRows c_u31]) Tsize_28 rfl rfl rfl (.here _) rfl ?_)
      refine Run.done ?_
      refine Run.seq ?_
      refine Run.region ?_
      refine Run.q (v := .slice kA kn kc) rfl (OpQ.y (OpY.pure rfl)) ?_
      refine Run.step rfl (OpStep.call (vs := [.slice kA kn kc]) (caps := []) Tcall_15 rfl rfl (fun w hs => toIntS_spec (hs.sl kh) (by omega)) ?_)
      rintro u4 _ rfl
      show Run _ _ (putF _ _ _ u4) [.own u4 3 1 kn (ints kx), .blk b2 28 [.slice A_u31 mnRows c_u31], .own (.slice A_u31 mnRows c_u31) 3 1 mnRows (ints mxRows), .own u2 3 1 kn (ints kx), .own u1 3 1 mnRows (ints mxRows), .blk b1 24 [mvRows]]
      refine Run.q (v := u4) rfl (OpQ.y (OpY.pure rfl)) ?_
      refine Run.done ?_
      refine Run.seq ?_
      refine Run.region ?_
      refine Run.q (v := .agg #[.slice A_u31 mnRows c_u31]) rfl (OpQ.y (OpY.loadN (cs := [.slice A_u31 mnRows c_u31]) Tagg_28 rfl (Cells.blk (.tail _ (List.Mem.head _)) ⟨rfl, trivial⟩))) ?_
      refine Run.q (v := u4) rfl (OpQ.y (OpY.pure rfl)) ?_
      refine Run.q (v := .tuple #[.int .i64 ((((nwG mnRows mxRows kx).length : Nat) : Int)), .bool (nwB mnRows mxRows kx)]) rfl (OpQ.call (vs := [.agg #[.slice A_u31 mnRows c_u31], u4]) (caps := []) Tcall_16 rfl rfl (fun w hs => LeastNetwork_spec (hs.slOwn (.tail _ (.tail _ (List.Mem.head _)))) (hs.slOwn (.head _)))) ?_
      refine Run.q (v := .tuple #[.int .i64 ((((nwG mnRows mxRows kx).length : Nat) : Int)), .bool (nwB mnRows mxRows kx)]) rfl (OpQ.y (OpY.pure rfl)) ?_
      refine Run.q (v := .int .i64 ((((nwG mnRows mxRows kx).length : Nat) : Int))) rfl (OpQ.y (OpY.pure rfl)) ?_
      refine Run.q (v := .bool (nwB mnRows mxRows kx)) rfl (OpQ.y (OpY.pure rfl)) ?_
      refine Run.q (v := .int .i64 ((((nwG mnRows mxRows kx).length : Nat) : Int))) rfl (OpQ.y (OpY.pure rfl)) ?_
      refine Run.q (v := .bool (nwB mnRows mxRows kx)) rfl (OpQ.y (OpY.pure rfl)) ?_
      refine Run.done ?_
      refine Run.seq ?_
      refine Run.seq ?_
      refine Run.region ?_
      refine Run.q (v := .int .i64 ((((nwG mnRows mxRows kx).length : Nat) : Int))) rfl (OpQ.y (OpY.pure rfl)) ?_
      refine Run.q (v := .int .i64 ((((nwG mnRows mxRows kx).length : Nat) : Int))) rfl (OpQ.y (OpY.pure rfl)) ?_
      refine Run.q (v := .bool false) rfl (OpQ.y (OpY.neqSame rfl rfl rfl)) ?_
      refine Run.q (v := .bool false) rfl (OpQ.y (OpY.pure rfl)) ?_
      refine Run.q (v := .bool (nwB mnRows mxRows kx)) rfl (OpQ.y (OpY.pure rfl)) ?_
      refine Run.q (v := .bool (nwB mnRows mxRows kx)) rfl (OpQ.y (OpY.pure rfl)) ?_
      refine Run.q (v := .bool false) rfl (OpQ.y (OpY.neqBSame Tbool_4 rfl rfl rfl)) ?_
      refine Run.q (v := .bool false) rfl (OpQ.y (OpY.pure rfl)) ?_
      refine Run.done ?_
      refine Run.cond (b := false) rfl (fun h => nomatch h) (fun _ => ?_)
      refine Run.skip ?_
      refine Run.seq ?_
      refine Run.seq ?_
      refine Run.held (by kernel_rfl) ?_
      refine DW.take (i := 0) (v := .agg #[.slice A_u31 mnRows c_u31]) rfl (by kernel_rfl) (by kernel_rfl) (by kernel_rfl) (fun _ _ _ h => h) (Weak.refl _) rfl (OpY.loadN (cs := [.slice A_u31 mnRows c_u31]) Tagg_28 rfl (Cells.blk (.tail _ (List.Mem.head _)) ⟨rfl, trivial⟩)) ?_
      refine DW.take (i := 1) (v := .agg #[mvRows]) rfl (by kernel_rfl) (by kernel_rfl) (by kernel_rfl) (fun _ _ _ h => h) (Weak.refl _) rfl (OpY.loadN (cs := [mvRows]) Tagg_24 rfl (Cells.blk (.tail _ (.tail _ (.tail _ (.tail _ (.tail _ (List.Mem.head _)))))) ⟨rfl, trivial⟩)) ?_
      refine DW.step (i := 2) (by kernel_rfl) rfl rfl (OpStep.call (vs := [.agg #[mvRows]]) (caps := []) Tcall_11 rfl rfl (fun w hs => toLinear_spec (hs.sl mhRows) (by omega)) ?_)
      rintro _ _ ⟨u5, rfl, rfl⟩
      refine ⟨(Some'.weak (.skip (.take (.take (.take (.take (.take (.take (.nil _))))))))), ?_⟩
      refine DW.step (i := 3) (by kernel_rfl) rfl rfl (OpStep.q (v := .bool true) (OpQ.call (vs := [.agg #[.slice A_u31 mnRows c_u31], .agg #[u5]]) (caps := []) Tcall_13 rfl rfl (fun w hs => eqLinear_true (hs.slOwn (.tail _ (.tail _ (.tail _ (List.Mem.head _))))) (hs.slOwn (.head _)))) ?_)
      refine ⟨(Some'.weak (.skip (.take (.take (.take (.take (.take (.take (.nil _))))))))), ?_⟩
      refine DW.take (i := 4) (v := .bool false) rfl (by kernel_rfl) (by kernel_rfl) (by kernel_rfl) (fun _ _ _ h => h) (Some'.weak (.skip (.take (.take (.take (.take (.take (.take (.nil _))))))))) rfl (OpY.pure rfl) ?_
      refine DW.done (by kernel_rfl) ?_
      refine Run.cond (b := false) rfl (fun h => nomatch h) (fun _ => ?_)
      refine Run.skip ?_
      refine Run.seq ?_
      refine Run.seq ?_
      refine Run.region ?_
      refine Run.q (v := u4) rfl (OpQ.y (OpY.pure rfl)) ?_
      refine Run.q (v := .slice kA kn kc) rfl (OpQ.y (OpY.pure rfl)) ?_
      refine Run.step rfl (OpStep.call (vs := [.slice kA kn kc]) (caps := []) Tcall_15 rfl rfl (fun w hs => toIntS_spec (hs.sl kh) (by omega)) ?_)
      rintro u6 _ rfl
      show Run _ _ (putF _ _ _ u6) [.own u6 3 1 kn (ints kx), .own u5 3 1 mnRows (ints mxRows), .own u4 3 1 kn (ints kx), .blk b2 28 [.slice A_u31 mnRows c_u31], .own (.slice A_u31 mnRows c_u31) 3 1 mnRows (ints mxRows), .own u2 3 1 kn (ints kx), .own u1 3 1 mnRows (ints mxRows), .blk b1 24 [mvRows]]
      refine Run.q (v := .bool true) rfl (OpQ.call (vs := [u4, u6]) (caps := []) Tcall_17 rfl rfl (fun w hs => eqIntS_true (hs.slOwn (.tail _ (.tail _ (List.Mem.head _)))) (hs.slOwn (.head _)) rfl)) ?_
      refine Run.q (v := .bool false) rfl (OpQ.y (OpY.pure rfl)) ?_
      refine Run.done ?_
      refine Run.cond (b := false) rfl (fun h => nomatch h) (fun _ => ?_)
      refine Run.skip ?_
      refine Run.seq ?_
      refine Run.region ?_
      refine Run.q (v := .bool true) rfl (OpQ.y (OpY.pure rfl)) ?_
      refine Run.done ?_
      refine Run.ret ?_
      refine ⟨.bool true, [], Out.one rfl rfl, (Some'.weak (.nil _)), ?_⟩
      rfl

end Go.Proofs.Yteehfidjofcfmaa
