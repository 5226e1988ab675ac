/- The walk of the law FnExactShortestNetwork. -/
import Derived.Test.YteehfidjofcfmaaNwu
import Derived.Test.YteehfidjofcfmaaLie
import Derived.Test.YteehfidjofcfmaaCi
import Derived.Test.YteehfidjofcfmaaProg
set_option linter.unusedSimpArgs false
set_option linter.unusedVariables false
namespace Go.Proofs.Yteehfidjofcfmaa
open Go Go.RowKit
namespace L37T
theorem Tagg_24 : aggOf Try.prog 24 = some 1 := by kernel_rfl
theorem Tagg_28 : aggOf Try.prog 28 = some 1 := by kernel_rfl
theorem Tagg_38 : aggOf Try.prog 38 = some 2 := by kernel_rfl
theorem Tbool_4 : Try.prog.underlying 4 = some .bool := by kernel_rfl
theorem Tcall_11 : callable Try.prog 11 = true := by kernel_rfl
theorem Tcall_13 : callable Try.prog 13 = true := by kernel_rfl
theorem Tcall_15 : callable Try.prog 15 = true := by kernel_rfl
theorem Tcall_17 : callable Try.prog 17 = true := by kernel_rfl
theorem Tcall_20 : callable Try.prog 20 = true := by kernel_rfl
theorem Tcall_21 : callable Try.prog 21 = true := by kernel_rfl
theorem Tcall_22 : callable Try.prog 22 = true := by kernel_rfl
theorem Tcall_23 : callable Try.prog 23 = true := by kernel_rfl
theorem Tcall_24 : callable Try.prog 24 = true := by kernel_rfl
theorem Tcall_25 : callable Try.prog 25 = true := by kernel_rfl
theorem Tcall_26 : callable Try.prog 26 = true := by kernel_rfl
theorem Tcall_9 : callable Try.prog 9 = true := by kernel_rfl
theorem Tsize_28 : (Try.prog.info? 28).map (·.size) = some 1 := by kernel_rfl
theorem Tsize_38 : (Try.prog.info? 38).map (·.size) = some 2 := by kernel_rfl
theorem Tsl_22 : sliceOf Try.prog 22 = some (3, 1, 8, [.int .i64 0]) := by kernel_rfl
theorem Tzero_28 : zeroOf Try.prog 28 = some [.slice none 0 0] := by kernel_rfl
theorem Tzero_38 : zeroOf Try.prog 38 = some [.int .i64 0, .slice none 0 0] := by kernel_rfl
end L37T
open L37T
set_option maxHeartbeats 1000000 in
set_option maxRecDepth 20000 in
theorem law_spec {mvRows : Value} {mnRows : Nat} {mxRows : List Int} {kv : Value} {kn : Nat} {kx : List Int} {w : World} (mhRows : Sl w mvRows 1 mnRows (ints mxRows)) (mwRows : ∀ x ∈ mxRows, In64 x) (kh : Sl w kv 1 kn (ints kx)) (kw : ∀ x ∈ kx, In64 x) : Calls Try.prog 6 #[.agg #[mvRows], kv] w (Post No w fun v _ => v = .bool true) := by
  obtain ⟨kA, kc, rfl, _, _⟩ := kh.form0
  have hml0 : mxRows.length = mnRows := by have h := mhRows.len; simpa [ints] using h
  have hnw := nw_le (ms := kx) hml0
  refine enter (n := 117) (args := [.agg #[mvRows], .slice kA kn kc]) Try.func6 rfl rfl (St.empty _ _) ?_
  refine Run.seq ?_
  refine Run.region ?_
  refine Run.step rfl (OpStep.box (us := [mvRows]) rfl fun b1 => ?_)
  refine Run.q (v := .bool false) rfl (OpQ.y (OpY.pure rfl)) ?_
  refine Run.done ?_
  refine Run.seq ?_
  refine Run.seq ?_
  refine Run.region ?_
  refine Run.q (v := .slice kA kn kc) rfl (OpQ.y (OpY.pure rfl)) ?_
  refine Run.q (v := .int .i64 (((kn : Nat) : Int))) rfl (OpQ.y (OpY.len Tsl_22 rfl)) ?_
  refine Run.q (v := .bool (decide ((((kn : Nat) : Int)) > 1048576))) rfl (OpQ.y (OpY.pure rfl)) ?_
  refine Run.done ?_
  refine Run.cond (b := decide ((((kn : Nat) : Int)) > 1048576)) rfl (fun h19 => ?_) (fun h19 => ?_)
  · have p19 := h19; try simp only [decide_eq_true_eq, decide_eq_false_iff_not, beq_iff_eq, bne_iff_ne, beq_eq_false_iff_ne, ne_eq, gt_iff_lt, ge_iff_le, Int.not_lt, Int.not_le, bne_eq_false_iff_eq, Bool.not_eq_true', Bool.not_eq_false', Bool.and_eq_true, Bool.and_eq_false_iff, Bool.or_eq_true, Bool.or_eq_false_iff, Decidable.not_not, List.cons.injEq, and_true] at p19
    refine Run.seq ?_
    refine Run.region ?_
    refine Run.q (v := .bool true) rfl (OpQ.y (OpY.pure rfl)) ?_
    refine Run.done ?_
    refine Run.ret ?_
    refine ⟨.bool true, [], Out.one rfl rfl, (Some'.weak (.nil _)), ?_⟩
    rfl
  · have p19 := h19; try simp only [decide_eq_true_eq, decide_eq_false_iff_not, beq_iff_eq, bne_iff_ne, beq_eq_false_iff_ne, ne_eq, gt_iff_lt, ge_iff_le, Int.not_lt, Int.not_le, bne_eq_false_iff_eq, Bool.not_eq_true', Bool.not_eq_false', Bool.and_eq_true, Bool.and_eq_false_iff, Bool.or_eq_true, Bool.or_eq_false_iff, Decidable.not_not, List.cons.injEq, and_true] at p19
    refine Run.skip ?_
    refine Run.seq ?_
    refine Run.region ?_
    refine Run.q (v := .int .i64 1048576) rfl (OpQ.y (OpY.pure rfl)) ?_
    refine Run.done ?_
    refine Run.seq ?_
    refine Run.region ?_
    refine Run.q (v := .agg #[mvRows]) rfl (OpQ.y (OpY.loadN (cs := [mvRows]) Tagg_24 rfl (Cells.blk (.head _) ⟨rfl, trivial⟩))) ?_
    refine Run.q (v := .int .i64 1048576) rfl (OpQ.y (OpY.pure rfl)) ?_
    refine Run.q (v := .int .i64 (szN 1048576 [mnRows])) rfl (OpQ.call (vs := [.agg #[mvRows], .int .i64 1048576]) (caps := []) Tcall_9 rfl rfl (fun w hs => szLinear_spec (hs.sl mhRows) (by omega) (by omega))) ?_
    refine Run.q (v := .int .i64 (szN 1048576 [mnRows])) rfl (OpQ.y (OpY.pure rfl)) ?_
    refine Run.done ?_
    refine Run.seq ?_
    refine Run.seq ?_
    refine Run.region ?_
    refine Run.q (v := .int .i64 (szN 1048576 [mnRows])) rfl (OpQ.y (OpY.pure rfl)) ?_
    refine Run.q (v := .bool (decide ((szN 1048576 [mnRows]) < 0))) rfl (OpQ.y (OpY.pure rfl)) ?_
    refine Run.done ?_
    refine Run.cond (b := decide ((szN 1048576 [mnRows]) < 0)) rfl (fun h24 => ?_) (fun h24 => ?_)
    · have p24 := h24; try simp only [decide_eq_true_eq, decide_eq_false_iff_not, beq_iff_eq, bne_iff_ne, beq_eq_false_iff_ne, ne_eq, gt_iff_lt, ge_iff_le, Int.not_lt, Int.not_le, bne_eq_false_iff_eq, Bool.not_eq_true', Bool.not_eq_false', Bool.and_eq_true, Bool.and_eq_false_iff, Bool.or_eq_true, Bool.or_eq_false_iff, Decidable.not_not, List.cons.injEq, and_true] at p24
      refine Run.seq ?_
      refine Run.region ?_
      refine Run.q (v := .bool true) rfl (OpQ.y (OpY.pure rfl)) ?_
      refine Run.done ?_
      refine Run.ret ?_
      refine ⟨.bool true, [], Out.one rfl rfl, (Some'.weak (.nil _)), ?_⟩
      rfl
    · have p24 := h24; try simp only [decide_eq_true_eq, decide_eq_false_iff_not, beq_iff_eq, bne_iff_ne, beq_eq_false_iff_ne, ne_eq, gt_iff_lt, ge_iff_le, Int.not_lt, Int.not_le, bne_eq_false_iff_eq, Bool.not_eq_true', Bool.not_eq_false', Bool.and_eq_true, Bool.and_eq_false_iff, Bool.or_eq_true, Bool.or_eq_false_iff, Decidable.not_not, List.cons.injEq, and_true] at p24
      have hz24 := szN_bound (ns := [mnRows]) (l := 1048576) p24
      have hz24mnRows := hz24 mnRows (by simp)
      refine Run.skip ?_
      refine Run.seq ?_
      refine Run.region ?_
      refine Run.q (v := .agg #[mvRows]) rfl (OpQ.y (OpY.loadN (cs := [mvRows]) Tagg_24 rfl (Cells.blk (.head _) ⟨rfl, trivial⟩))) ?_
      refine Run.step rfl (OpStep.call (vs := [.agg #[mvRows]]) (caps := []) Tcall_11 rfl rfl (fun w hs => toLinear_spec (hs.sl mhRows) (by omega)) ?_)
      rintro _ _ ⟨u1, rfl, rfl⟩
      show Run _ _ (putF _ _ _ (.agg #[u1])) [.own u1 3 1 mnRows (ints mxRows), .blk b1 24 [mvRows]]
      refine Run.q (v := .slice kA kn kc) rfl (OpQ.y (OpY.pure rfl)) ?_
      refine Run.step rfl (OpStep.call (vs := [.slice kA kn kc]) (caps := []) Tcall_15 rfl rfl (fun w hs => toIntS_spec (hs.sl kh) (by omega)) ?_)
      rintro u2 _ rfl
      show Run _ _ (putF _ _ _ u2) [.own u2 3 1 kn (ints kx), .own u1 3 1 mnRows (ints mxRows), .blk b1 24 [mvRows]]
      refine Run.step rfl (OpStep.call (vs := [.agg #[u1], u2]) (caps := []) Tcall_24 rfl rfl (fun w hs => sShortestNetwork_spec (hs.slOwn (.tail _ (List.Mem.head _))) (hs.slOwn (.head _))) ?_)
      rintro _ _ ⟨u3, rfl, rfl⟩
      show Run _ _ (putF _ _ _ (.tuple #[.agg #[.int .i64 (nwN mnRows mxRows kx), u3], .bool (nwB mnRows mxRows kx)])) [.own u3 71 3 ((nwG mnRows mxRows kx).length) (ints (flCX (dcw mnRows (nwG mnRows mxRows kx)))), .own u2 3 1 kn (ints kx), .own u1 3 1 mnRows (ints mxRows), .blk b1 24 [mvRows]]
      refine Run.q (v := .tuple #[.agg #[.int .i64 (nwN mnRows mxRows kx), u3], .bool (nwB mnRows mxRows kx)]) rfl (OpQ.y (OpY.pure rfl)) ?_
      refine Run.q (v := .agg #[.int .i64 (nwN mnRows mxRows kx), u3]) rfl (OpQ.y (OpY.pure rfl)) ?_
      refine Run.q (v := .bool (nwB mnRows mxRows kx)) rfl (OpQ.y (OpY.pure rfl)) ?_
      refine Run.step rfl (OpStep.alloc (zs := [.int .i64 0, .slice none 0 0]) Tzero_38 fun b2 => ?_)
      refine Run.formOwn (.tail _ (List.Mem.head _)) (fun A_u31 c_u31 hv hcapc_u31 hmaxc_u31 => ?_) (fun _ _ _ => ⟨nofun, nofun, nofun⟩)
      subst hv
      refine Run.step rfl (OpStep.storeAll (us := [.int .i64 (nwN mnRows mxRows kx), .slice A_u31 ((nwG mnRows mxRows kx).length) c_u31]) Tsize_38 rfl rfl rfl (.here _) rfl ?_)
      refine Run.q (v := .bool (nwB mnRows mxRows kx)) rfl (OpQ.y (OpY.pure rfl)) ?_
      refine Run.done ?_
      refine Run.seq ?_
      refine Run.region ?_
      refine Run.q (v := .agg #[mvRows]) rfl (OpQ.y (OpY.loadN (cs := [mvRows]) Tagg_24 rfl (Cells.blk (.tail _ (.tail _ (.tail _ (.tail _ (List.Mem.head _))))) ⟨rfl, trivial⟩))) ?_
      refine Run.step rfl (OpStep.call (vs := [.agg #[mvRows]]) (caps := []) Tcall_11 rfl rfl (fun w hs => toLinear_spec (hs.sl mhRows) (by omega)) ?_)
      rintro _ _ ⟨u4, rfl, rfl⟩
      show Run _ _ (putF _ _ _ (.agg #[u4])) [.own u4 3 1 mnRows (ints mxRows), .blk b2 38 [.int .i64 (nwN mnRows mxRows kx), .slice A_u31 ((nwG mnRows mxRows kx).length) c_u31], .own (.slice A_u31 ((nwG mnRows mxRows kx).length) c_u31) 71 3 ((nwG mnRows mxRows kx).length) (ints (flCX (dcw mnRows (nwG mnRows mxRows kx)))), .own u2 3 1 kn (ints kx), .own u1 3 1 mnRows (ints mxRows), .blk b1 24 [mvRows]]
      refine Run.step rfl (OpStep.alloc (zs := [.slice none 0 0]) Tzero_28 fun b3 => ?_)
      refine Run.formOwn (.tail _ (List.Mem.head _)) (fun A_u41 c_u41 hv hcapc_u41 hmaxc_u41 => ?_) (fun _ _ _ => ⟨nofun, nofun, nofun⟩)
      subst hv
      refine Run.step rfl (OpStep.storeAll (us := [.slice A_u41 mnRows c_u41]) Tsize_28 rfl rfl rfl (.here _) rfl ?_)
      refine Run.done ?_
      refine Run.seq ?_
      refine Run.region ?_
      refine Run.q (v := .slice kA kn kc) rfl (OpQ.y (OpY.pure rfl)) ?_
      refine Run.step rfl (OpStep.call (vs := [.slice kA kn kc]) (caps := []) Tcall_15 rfl rfl (fun w hs => toIntS_spec (hs.sl kh) (by omega)) ?_)
      rintro u5 _ rfl
      show Run _ _ (putF _ _ _ u5) [.own u5 3 1 kn (ints kx), .blk b3 28 [.slice A_u41 mnRows c_u41], .own (.slice A_u41 mnRows c_u41) 3 1 mnRows (ints mxRows), .blk b2 38 [.int .i64 (nwN mnRows mxRows kx), .slice A_u31 ((nwG mnRows mxRows kx).length) c_u31], .own (.slice A_u31 ((nwG mnRows mxRows kx).length) c_u31) 71 3 ((nwG mnRows mxRows kx).length) (ints (flCX (dcw mnRows (nwG mnRows mxRows kx)))), .own u2 3 1 kn (ints kx), .own u1 3 1 mnRows (ints mxRows), .blk b1 24 [mvRows]]
      refine Run.q (v := u5) rfl (OpQ.y (OpY.pure rfl)) ?_
      refine Run.done ?_
      refine Run.seq ?_
      refine Run.region ?_
      refine Run.q (v := .agg #[.slice A_u41 mnRows c_u41]) rfl (OpQ.y (OpY.loadN (cs := [.slice A_u41 mnRows c_u41]) Tagg_28 rfl (Cells.blk (.tail _ (List.Mem.head _)) ⟨rfl, trivial⟩))) ?_
      refine Run.q (v := u5) rfl (OpQ.y (OpY.pure rfl)) ?_
      refine Run.step rfl (OpStep.call (vs := [.agg #[.slice A_u41 mnRows c_u41], u5]) (caps := []) Tcall_25 rfl rfl (fun w hs => ShortestNetwork_spec (hs.slOwn (.tail _ (.tail _ (List.Mem.head _)))) (hs.slOwn (.head _))) ?_)
      rintro _ _ ⟨u6, rfl, rfl⟩
      show Run _ _ (putF _ _ _ (.tuple #[.agg #[.int .i64 (nwN mnRows mxRows kx), u6], .bool (nwB mnRows mxRows kx)])) [.own u6 71 3 ((nwG mnRows mxRows kx).length) (ints (flCX (dcw mnRows (nwG mnRows mxRows kx)))), .own u5 3 1 kn (ints kx), .blk b3 28 [.slice A_u41 mnRows c_u41], .own (.slice A_u41 mnRows c_u41) 3 1 mnRows (ints mxRows), .blk b2 38 [.int .i64 (nwN mnRows mxRows kx), .slice A_u31 ((nwG mnRows mxRows kx).length) c_u31], .own (.slice A_u31 ((nwG mnRows mxRows kx).length) c_u31) 71 3 ((nwG mnRows mxRows kx).length) (ints (flCX (dcw mnRows (nwG mnRows mxRows kx)))), .own u2 3 1 kn (ints kx), .own u1 3 1 mnRows (ints mxRows), .blk b1 24 [mvRows]]
      refine Run.q (v := .tuple #[.agg #[.int .i64 (nwN mnRows mxRows kx), u6], .bool (nwB mnRows mxRows kx)]) rfl (OpQ.y (OpY.pure rfl)) ?_
      refine Run.q (v := .agg #[.int .i64 (nwN mnRows mxRows kx), u6]) rfl (OpQ.y (OpY.pure rfl)) ?_
      refine Run.q (v := .bool (nwB mnRows mxRows kx)) rfl (OpQ.y (OpY.pure rfl)) ?_
      refine Run.step rfl (OpStep.alloc (zs := [.int .i64 0, .slice none 0 0]) Tzero_38 fun b4 => ?_)
      refine Run.formOwn (.tail _ (List.Mem.head _)) (fun A_u61 c_u61 hv hcapc_u61 hmaxc_u61 => ?_) (fun _ _ _ => ⟨nofun, nofun, nofun⟩)
      subst hv
      refine Run.step rfl (OpStep.storeAll (us := [.int .i64 (nwN mnRows mxRows kx), .slice A_u61 ((nwG mnRows mxRows kx).length) c_u61]) Tsize_38 rfl rfl rfl (.here _) rfl ?_)
      refine Run.q (v := .bool (nwB mnRows mxRows kx)) rfl (OpQ.y (OpY.pure rfl)) ?_
      refine Run.done ?_
      refine Run.seq ?_
      refine Run.seq ?_
      refine Run.region ?_
      refine Run.q (v := .agg #[.int .i64 (nwN mnRows mxRows kx), .slice A_u61 ((nwG mnRows mxRows kx).length) c_u61]) rfl (OpQ.y (OpY.loadN (cs := [.int .i64 (nwN mnRows mxRows kx), .slice A_u61 ((nwG mnRows mxRows kx).length) c_u61]) Tagg_38 rfl (Cells.blk (.head _) ⟨rfl, rfl, trivial⟩))) ?_
      refine Run.q (v := .agg #[.int .i64 (nwN mnRows mxRows kx), .slice A_u31 ((nwG mnRows mxRows kx).length) c_u31]) rfl (OpQ.y (OpY.loadN (cs := [.int .i64 (nwN mnRows mxRows kx), .slice A_u31 ((nwG mnRows mxRows kx).length) c_u31]) Tagg_38 rfl (Cells.blk (.tail _ (.tail _ (.tail _ (.tail _ (.tail _ (List.Mem.head _)))))) ⟨rfl, rfl, trivial⟩))) ?_
      refine Run.q (v := .bool true) rfl (OpQ.call (vs := [.agg #[.int .i64 (nwN mnRows mxRows kx), .slice A_u61 ((nwG mnRows mxRows kx).length) c_u61], .agg #[.int .i64 (nwN mnRows mxRows kx), .slice A_u31 ((nwG mnRows mxRows kx).length) c_u31]]) (caps := []) Tcall_20 rfl rfl (fun w hs => eqCircuit_true (hs.slOwn (.tail _ (List.Mem.head _))) (hs.slOwn (.tail _ (.tail _ (.tail _ (.tail _ (.tail _ (.tail _ (List.Mem.head _)))))))))) ?_
      refine Run.q (v := .bool false) rfl (OpQ.y (OpY.pure rfl)) ?_
      refine Run.q (v := .bool false) rfl (OpQ.y (OpY.pure rfl)) ?_
      refine Run.q (v := .bool (nwB mnRows mxRows kx)) rfl (OpQ.y (OpY.pure rfl)) ?_
      refine Run.q (v := .bool (nwB mnRows mxRows kx)) rfl (OpQ.y (OpY.pure rfl)) ?_
      refine Run.q (v := .bool false) rfl (OpQ.y (OpY.neqBSame Tbool_4 rfl rfl rfl)) ?_
      refine Run.q (v := .bool false) rfl (OpQ.y (OpY.pure rfl)) ?_
      refine Run.done ?_
      refine Run.cond (b := false) rfl (fun h => nomatch h) (fun _ => ?_)
      refine Run.skip ?_
      refine Run.seq ?_
      refine Run.seq ?_
      refine Run.held (by kernel_rfl) ?_
      refine DW.take (i := 0) (v := .agg #[.slice A_u41 mnRows c_u41]) rfl (by kernel_rfl) (by kernel_rfl) (by kernel_rfl) (fun _ _ _ h => h) (Weak.refl _) rfl (OpY.loadN (cs := [.slice A_u41 mnRows c_u41]) Tagg_28 rfl (Cells.blk (.tail _ (.tail _ (.tail _ (List.Mem.head _)))) ⟨rfl, trivial⟩)) ?_
      refine DW.take (i := 1) (v := .agg #[mvRows]) rfl (by kernel_rfl) (by kernel_rfl) (by kernel_rfl) (fun _ _ _ h => h) (Weak.refl _) rfl (OpY.loadN (cs := [mvRows]) Tagg_24 rfl (Cells.blk (.tail _ (.tail _ (.tail _ (.tail _ (.tail _ (.tail _ (.tail _ (.tail _ (.tail _ (List.Mem.head _)))))))))) ⟨rfl, trivial⟩)) ?_
      refine DW.step (i := 2) (by kernel_rfl) rfl rfl (OpStep.call (vs := [.agg #[mvRows]]) (caps := []) Tcall_11 rfl rfl (fun w hs => toLinear_spec (hs.sl mhRows) (by omega)) ?_)
      rintro _ _ ⟨u7, rfl, rfl⟩
      refine ⟨(Some'.weak (.skip (.take (.take (.take (.take (.take (.take (.take (.take (.take (.take (.nil _))))))))))))), ?_⟩
      refine DW.step (i := 3) (by kernel_rfl) rfl rfl (OpStep.q (v := .bool true) (OpQ.call (vs := [.agg #[.slice A_u41 mnRows c_u41], .agg #[u7]]) (caps := []) Tcall_13 rfl rfl (fun w hs => eqLinear_true (hs.slOwn (.tail _ (.tail _ (.tail _ (.tail _ (.tail _ (List.Mem.head _))))))) (hs.slOwn (.head _)))) ?_)
      refine ⟨(Some'.weak (.skip (.take (.take (.take (.take (.take (.take (.take (.take (.take (.take (.nil _))))))))))))), ?_⟩
      refine DW.take (i := 4) (v := .bool false) rfl (by kernel_rfl) (by kernel_rfl) (by kernel_rfl) (fun _ _ _ h => h) (Some'.weak (.skip (.take (.take (.take (.take (.take (.take (.take (.take (.take (.take (.nil _))))))))))))) rfl (OpY.pure rfl) ?_
      refine DW.done (by kernel_rfl) ?_
      refine Run.cond (b := false) rfl (fun h => nomatch h) (fun _ => ?_)
      refine Run.skip ?_
      refine Run.seq ?_
      refine Run.seq ?_
      refine Run.region ?_
      refine Run.q (v := u5) rfl (OpQ.y (OpY.pure rfl)) ?_
      refine Run.q (v := .slice kA kn kc) rfl (OpQ.y (OpY.pure rfl)) ?_
      refine Run.step rfl (OpStep.call (vs := [.slice kA kn kc]) (caps := []) Tcall_15 rfl rfl (fun w hs => toIntS_spec (hs.sl kh) (by omega)) ?_)
      rintro u8 _ rfl
      show Run _ _ (putF _ _ _ u8) [.own u8 3 1 kn (ints kx), .own u7 3 1 mnRows (ints mxRows), .blk b4 38 [.int .i64 (nwN mnRows mxRows kx), .slice A_u61 ((nwG mnRows mxRows kx).length) c_u61], .own (.slice A_u61 ((nwG mnRows mxRows kx).length) c_u61) 71 3 ((nwG mnRows mxRows kx).length) (ints (flCX (dcw mnRows (nwG mnRows mxRows kx)))), .own u5 3 1 kn (ints kx), .blk b3 28 [.slice A_u41 mnRows c_u41], .own (.slice A_u41 mnRows c_u41) 3 1 mnRows (ints mxRows), .blk b2 38 [.int .i64 (nwN mnRows mxRows kx), .slice A_u31 ((nwG mnRows mxRows kx).length) c_u31], .own (.slice A_u31 ((nwG mnRows mxRows kx).length) c_u31) 71 3 ((nwG mnRows mxRows kx).length) (ints (flCX (dcw mnRows (nwG mnRows mxRows kx)))), .own u2 3 1 kn (ints kx), .own u1 3 1 mnRows (ints mxRows), .blk b1 24 [mvRows]]
      refine Run.q (v := .bool true) rfl (OpQ.call (vs := [u5, u8]) (caps := []) Tcall_17 rfl rfl (fun w hs => eqIntS_true (hs.slOwn (.tail _ (.tail _ (.tail _ (.tail _ (List.Mem.head _)))))) (hs.slOwn (.head _)) rfl)) ?_
      refine Run.q (v := .bool false) rfl (OpQ.y (OpY.pure rfl)) ?_
      refine Run.done ?_
      refine Run.cond (b := false) rfl (fun h => nomatch h) (fun _ => ?_)
      refine Run.skip ?_
      refine Run.seq ?_
      refine Run.region ?_
      refine Run.q (v := .int .i64 1) rfl (OpQ.y (OpY.pure rfl)) ?_
      refine Run.done ?_
      refine Run.seq ?_
      refine Run.region ?_
      refine Run.q (v := .agg #[.slice A_u41 mnRows c_u41]) rfl (OpQ.y (OpY.loadN (cs := [.slice A_u41 mnRows c_u41]) Tagg_28 rfl (Cells.blk (.tail _ (.tail _ (.tail _ (.tail _ (.tail _ (List.Mem.head _)))))) ⟨rfl, trivial⟩))) ?_
      refine Run.q (v := .int .i64 1) rfl (OpQ.y (OpY.pure rfl)) ?_
      refine Run.step rfl (OpStep.callM (H1 := [.own (.slice A_u41 mnRows c_u41) 3 1 mnRows (ints mxRows)]) (H2 := [.own u8 3 1 kn (ints kx), .own u7 3 1 mnRows (ints mxRows), .blk b4 38 [.int .i64 (nwN mnRows mxRows kx), .slice A_u61 ((nwG mnRows mxRows kx).length) c_u61], .own (.slice A_u61 ((nwG mnRows mxRows kx).length) c_u61) 71 3 ((nwG mnRows mxRows kx).length) (ints (flCX (dcw mnRows (nwG mnRows mxRows kx)))), .own u5 3 1 kn (ints kx), .blk b3 28 [.slice A_u41 mnRows c_u41], .blk b2 38 [.int .i64 (nwN mnRows mxRows kx), .slice A_u31 ((nwG mnRows mxRows kx).length) c_u31], .own (.slice A_u31 ((nwG mnRows mxRows kx).length) c_u31) 71 3 ((nwG mnRows mxRows kx).length) (ints (flCX (dcw mnRows (nwG mnRows mxRows kx)))), .own u2 3 1 kn (ints kx), .own u1 3 1 mnRows (ints mxRows), .blk b1 24 [mvRows]]) (vs := [.agg #[.slice A_u41 mnRows c_u41], .int .i64 1]) (caps := []) Tcall_21 rfl rfl (Weak.front [.own u8 3 1 kn (ints kx), .own u7 3 1 mnRows (ints mxRows), .blk b4 38 [.int .i64 (nwN mnRows mxRows kx), .slice A_u61 ((nwG mnRows mxRows kx).length) c_u61], .own (.slice A_u61 ((nwG mnRows mxRows kx).length) c_u61) 71 3 ((nwG mnRows mxRows kx).length) (ints (flCX (dcw mnRows (nwG mnRows mxRows kx)))), .own u5 3 1 kn (ints kx), .blk b3 28 [.slice A_u41 mnRows c_u41]] (.own (.slice A_u41 mnRows c_u41) 3 1 mnRows (ints mxRows)) [.blk b2 38 [.int .i64 (nwN mnRows mxRows kx), .slice A_u31 ((nwG mnRows mxRows kx).length) c_u31], .own (.slice A_u31 ((nwG mnRows mxRows kx).length) c_u31) 71 3 ((nwG mnRows mxRows kx).length) (ints (flCX (dcw mnRows (nwG mnRows mxRows kx)))), .own u2 3 1 kn (ints kx), .own u1 3 1 mnRows (ints mxRows), .blk b1 24 [mvRows]]) (fun w hs => markLinear_spec (hs.sub (List.sublist_append_left _ _)).self (by omega) (by omega)) ?_)
      rintro _ _ ⟨rfl, rfl⟩
      show Run _ _ (putF _ _ _ (.int .i64 (1 + ((mnRows : Nat) : Int) * 1))) [.own (.slice A_u41 mnRows c_u41) 3 1 mnRows (ints (mks 1 (mnRows * 1))), .own u8 3 1 kn (ints kx), .own u7 3 1 mnRows (ints mxRows), .blk b4 38 [.int .i64 (nwN mnRows mxRows kx), .slice A_u61 ((nwG mnRows mxRows kx).length) c_u61], .own (.slice A_u61 ((nwG mnRows mxRows kx).length) c_u61) 71 3 ((nwG mnRows mxRows kx).length) (ints (flCX (dcw mnRows (nwG mnRows mxRows kx)))), .own u5 3 1 kn (ints kx), .blk b3 28 [.slice A_u41 mnRows c_u41], .blk b2 38 [.int .i64 (nwN mnRows mxRows kx), .slice A_u31 ((nwG mnRows mxRows kx).length) c_u31], .own (.slice A_u31 ((nwG mnRows mxRows kx).length) c_u31) 71 3 ((nwG mnRows mxRows kx).length) (ints (flCX (dcw mnRows (nwG mnRows mxRows kx)))), .own u2 3 1 kn (ints kx), .own u1 3 1 mnRows (ints mxRows), .blk b1 24 [mvRows]]
      refine Run.q (v := .int .i64 (1 + ((mnRows : Nat) : Int) * 1)) rfl (OpQ.y (OpY.pure rfl)) ?_
      refine Run.done ?_
      refine Run.seq ?_
      refine Run.region ?_
      refine Run.q (v := u5) rfl (OpQ.y (OpY.pure rfl)) ?_
      refine Run.q (v := .int .i64 (1 + ((mnRows : Nat) : Int) * 1)) rfl (OpQ.y (OpY.pure rfl)) ?_
      refine Run.step rfl (OpStep.callM (H1 := [.own u5 3 1 kn (ints kx)]) (H2 := [.own (.slice A_u41 mnRows c_u41) 3 1 mnRows (ints (mks 1 (mnRows * 1))), .own u8 3 1 kn (ints kx), .own u7 3 1 mnRows (ints mxRows), .blk b4 38 [.int .i64 (nwN mnRows mxRows kx), .slice A_u61 ((nwG mnRows mxRows kx).length) c_u61], .own (.slice A_u61 ((nwG mnRows mxRows kx).length) c_u61) 71 3 ((nwG mnRows mxRows kx).length) (ints (flCX (dcw mnRows (nwG mnRows mxRows kx)))), .blk b3 28 [.slice A_u41 mnRows c_u41], .blk b2 38 [.int .i64 (nwN mnRows mxRows kx), .slice A_u31 ((nwG mnRows mxRows kx).length) c_u31], .own (.slice A_u31 ((nwG mnRows mxRows kx).length) c_u31) 71 3 ((nwG mnRows mxRows kx).length) (ints (flCX (dcw mnRows (nwG mnRows mxRows kx)))), .own u2 3 1 kn (ints kx), .own u1 3 1 mnRows (ints mxRows), .blk b1 24 [mvRows]]) (vs := [u5, .int .i64 (1 + ((mnRows : Nat) : Int) * 1)]) (caps := []) Tcall_26 rfl rfl (Weak.front [.own (.slice A_u41 mnRows c_u41) 3 1 mnRows (ints (mks 1 (mnRows * 1))), .own u8 3 1 kn (ints kx), .own u7 3 1 mnRows (ints mxRows), .blk b4 38 [.int .i64 (nwN mnRows mxRows kx), .slice A_u61 ((nwG mnRows mxRows kx).length) c_u61], .own (.slice A_u61 ((nwG mnRows mxRows kx).length) c_u61) 71 3 ((nwG mnRows mxRows kx).length) (ints (flCX (dcw mnRows (nwG mnRows mxRows kx))))] (.own u5 3 1 kn (ints kx)) [.blk b3 28 [.slice A_u41 mnRows c_u41], .blk b2 38 [.int .i64 (nwN mnRows mxRows kx), .slice A_u31 ((nwG mnRows mxRows kx).length) c_u31], .own (.slice A_u31 ((nwG mnRows mxRows kx).length) c_u31) 71 3 ((nwG mnRows mxRows kx).length) (ints (flCX (dcw mnRows (nwG mnRows mxRows kx)))), .own u2 3 1 kn (ints kx), .own u1 3 1 mnRows (ints mxRows), .blk b1 24 [mvRows]]) (fun w hs => markIntS_spec (hs.holds _ (.head _)) (by omega) (by omega)) ?_)
      rintro _ _ ⟨rfl, rfl⟩
      show Run _ _ (putF _ _ _ (.int .i64 (1 + ((mnRows : Nat) : Int) * 1 + ((kn : Nat) : Int) * 1))) [.own u5 3 1 kn (ints (mks (1 + ((mnRows : Nat) : Int) * 1) (kn * 1))), .own (.slice A_u41 mnRows c_u41) 3 1 mnRows (ints (mks 1 (mnRows * 1))), .own u8 3 1 kn (ints kx), .own u7 3 1 mnRows (ints mxRows), .blk b4 38 [.int .i64 (nwN mnRows mxRows kx), .slice A_u61 ((nwG mnRows mxRows kx).length) c_u61], .own (.slice A_u61 ((nwG mnRows mxRows kx).length) c_u61) 71 3 ((nwG mnRows mxRows kx).length) (ints (flCX (dcw mnRows (nwG mnRows mxRows kx)))), .blk b3 28 [.slice A_u41 mnRows c_u41], .blk b2 38 [.int .i64 (nwN mnRows mxRows kx), .slice A_u31 ((nwG mnRows mxRows kx).length) c_u31], .own (.slice A_u31 ((nwG mnRows mxRows kx).length) c_u31) 71 3 ((nwG mnRows mxRows kx).length) (ints (flCX (dcw mnRows (nwG mnRows mxRows kx)))), .own u2 3 1 kn (ints kx), .own u1 3 1 mnRows (ints mxRows), .blk b1 24 [mvRows]]
      refine Run.q (v := .int .i64 (1 + ((mnRows : Nat) : Int) * 1 + ((kn : Nat) : Int) * 1)) rfl (OpQ.y (OpY.pure rfl)) ?_
      refine Run.done ?_
      refine Run.seq ?_
      refine Run.seq ?_
      refine Run.region ?_
      refine Run.q (v := .int .i64 (1 + ((mnRows : Nat) : Int) * 1 + ((kn : Nat) : Int) * 1)) rfl (OpQ.y (OpY.pure rfl)) ?_
      refine Run.q (v := .bool (decide ((1 + ((mnRows : Nat) : Int) * 1 + ((kn : Nat) : Int) * 1) < 0))) rfl (OpQ.y (OpY.pure rfl)) ?_
      rcases Bool.eq_false_or_eq_true (decide ((1 + ((mnRows : Nat) : Int) * 1 + ((kn : Nat) : Int) * 1) < 0)) with h70 | h70
      · exact absurd h70 (by simp <;> omega) --DONE
      · refine Run.q (v := .bool false) rfl (OpQ.y (OpY.moveB rfl h70)) ?_
        have p70 := h70; try simp only [decide_eq_true_eq, decide_eq_false_iff_not, beq_iff_eq, bne_iff_ne, beq_eq_false_iff_ne, ne_eq, gt_iff_lt, ge_iff_le, Int.not_lt, Int.not_le, bne_eq_false_iff_eq, Bool.not_eq_true', Bool.not_eq_false', Bool.and_eq_true, Bool.and_eq_false_iff, Bool.or_eq_true, Bool.or_eq_false_iff, Decidable.not_not, List.cons.injEq, and_true] at p70
        refine Run.q (v := .agg #[.int .i64 (nwN mnRows mxRows kx), .slice A_u61 ((nwG mnRows mxRows kx).length) c_u61]) rfl (OpQ.y (OpY.loadN (cs := [.int .i64 (nwN mnRows mxRows kx), .slice A_u61 ((nwG mnRows mxRows kx).length) c_u61]) Tagg_38 rfl (Cells.blk (.tail _ (.tail _ (.tail _ (.tail _ (List.Mem.head _))))) ⟨rfl, rfl, trivial⟩))) ?_
        refine Run.q (v := .agg #[.int .i64 (nwN mnRows mxRows kx), .slice A_u31 ((nwG mnRows mxRows kx).length) c_u31]) rfl (OpQ.y (OpY.loadN (cs := [.int .i64 (nwN mnRows mxRows kx), .slice A_u31 ((nwG mnRows mxRows kx).length) c_u31]) Tagg_38 rfl (Cells.blk (.tail _ (.tail _ (.tail _ (.tail _ (.tail _ (.tail _ (.tail _ (List.Mem.head _)))))))) ⟨rfl, rfl, trivial⟩))) ?_
        refine Run.q (v := .bool true) rfl (OpQ.call (vs := [.agg #[.int .i64 (nwN mnRows mxRows kx), .slice A_u61 ((nwG mnRows mxRows kx).length) c_u61], .agg #[.int .i64 (nwN mnRows mxRows kx), .slice A_u31 ((nwG mnRows mxRows kx).length) c_u31]]) (caps := []) Tcall_20 rfl rfl (fun w hs => eqCircuit_true (hs.slOwn (.tail _ (.tail _ (.tail _ (.tail _ (.tail _ (List.Mem.head _))))))) (hs.slOwn (.tail _ (.tail _ (.tail _ (.tail _ (.tail _ (.tail _ (.tail _ (.tail _ (List.Mem.head _)))))))))))) ?_
        refine Run.q (v := .bool false) rfl (OpQ.y (OpY.pure rfl)) ?_
        refine Run.q (v := .bool false) rfl (OpQ.y (OpY.pure rfl)) ?_
        refine Run.q (v := .bool false) rfl (OpQ.y (OpY.pure rfl)) ?_
        refine Run.q (v := .bool (nwB mnRows mxRows kx)) rfl (OpQ.y (OpY.pure rfl)) ?_
        refine Run.q (v := .bool (nwB mnRows mxRows kx)) rfl (OpQ.y (OpY.pure rfl)) ?_
        refine Run.q (v := .bool false) rfl (OpQ.y (OpY.neqBSame Tbool_4 rfl rfl rfl)) ?_
        refine Run.q (v := .bool false) rfl (OpQ.y (OpY.pure rfl)) ?_
        refine Run.done ?_
        refine Run.cond (b := false) rfl (fun h => nomatch h) (fun _ => ?_)
        refine Run.skip ?_
        refine Run.seq ?_
        refine Run.region ?_
        refine Run.q (v := .int .i64 1) rfl (OpQ.y (OpY.pure rfl)) ?_
        refine Run.done ?_
        refine Run.seq ?_
        refine Run.region ?_
        refine Run.q (v := .agg #[.int .i64 (nwN mnRows mxRows kx), .slice A_u61 ((nwG mnRows mxRows kx).length) c_u61]) rfl (OpQ.y (OpY.loadN (cs := [.int .i64 (nwN mnRows mxRows kx), .slice A_u61 ((nwG mnRows mxRows kx).length) c_u61]) Tagg_38 rfl (Cells.blk (.tail _ (.tail _ (.tail _ (.tail _ (List.Mem.head _))))) ⟨rfl, rfl, trivial⟩))) ?_
        refine Run.q (v := .int .i64 1) rfl (OpQ.y (OpY.pure rfl)) ?_
        refine Run.step rfl (OpStep.callM (H1 := [.own (.slice A_u61 ((nwG mnRows mxRows kx).length) c_u61) 71 3 ((nwG mnRows mxRows kx).length) (ints (flCX (dcw mnRows (nwG mnRows mxRows kx))))]) (H2 := [.own u5 3 1 kn (ints (mks (1 + ((mnRows : Nat) : Int) * 1) (kn * 1))), .own (.slice A_u41 mnRows c_u41) 3 1 mnRows (ints (mks 1 (mnRows * 1))), .own u8 3 1 kn (ints kx), .own u7 3 1 mnRows (ints mxRows), .blk b4 38 [.int .i64 (nwN mnRows mxRows kx), .slice A_u61 ((nwG mnRows mxRows kx).length) c_u61], .blk b3 28 [.slice A_u41 mnRows c_u41], .blk b2 38 [.int .i64 (nwN mnRows mxRows kx), .slice A_u31 ((nwG mnRows mxRows kx).length) c_u31], .own (.slice A_u31 ((nwG mnRows mxRows kx).length) c_u31) 71 3 ((nwG mnRows mxRows kx).length) (ints (flCX (dcw mnRows (nwG mnRows mxRows kx)))), .own u2 3 1 kn (ints kx), .own u1 3 1 mnRows (ints mxRows), .blk b1 24 [mvRows]]) (vs := [.agg #[.int .i64 (nwN mnRows mxRows kx), .slice A_u61 ((nwG mnRows mxRows kx).length) c_u61], .int .i64 1]) (caps := []) Tcall_22 rfl rfl (Weak.front [.own u5 3 1 kn (ints (mks (1 + ((mnRows : Nat) : Int) * 1) (kn * 1))), .own (.slice A_u41 mnRows c_u41) 3 1 mnRows (ints (mks 1 (mnRows * 1))), .own u8 3 1 kn (ints kx), .own u7 3 1 mnRows (ints mxRows), .blk b4 38 [.int .i64 (nwN mnRows mxRows kx), .slice A_u61 ((nwG mnRows mxRows kx).length) c_u61]] (.own (.slice A_u61 ((nwG mnRows mxRows kx).length) c_u61) 71 3 ((nwG mnRows mxRows kx).length) (ints (flCX (dcw mnRows (nwG mnRows mxRows kx))))) [.blk b3 28 [.slice A_u41 mnRows c_u41], .blk b2 38 [.int .i64 (nwN mnRows mxRows kx), .slice A_u31 ((nwG mnRows mxRows kx).length) c_u31], .own (.slice A_u31 ((nwG mnRows mxRows kx).length) c_u31) 71 3 ((nwG mnRows mxRows kx).length) (ints (flCX (dcw mnRows (nwG mnRows mxRows kx)))), .own u2 3 1 kn (ints kx), .own u1 3 1 mnRows (ints mxRows), .blk b1 24 [mvRows]]) (fun w hs => markCircuit_spec (hs.sub (List.sublist_append_left _ _)).self (by omega) (by omega)) ?_)
        rintro _ _ ⟨rfl, rfl⟩
        show Run _ _ (putF _ _ _ (.int .i64 (1 + (((nwG mnRows mxRows kx).length : Nat) : Int) * 3))) [.own (.slice A_u61 ((nwG mnRows mxRows kx).length) c_u61) 71 3 ((nwG mnRows mxRows kx).length) (ints (mks 1 (((nwG mnRows mxRows kx).length) * 3))), .own u5 3 1 kn (ints (mks (1 + ((mnRows : Nat) : Int) * 1) (kn * 1))), .own (.slice A_u41 mnRows c_u41) 3 1 mnRows (ints (mks 1 (mnRows * 1))), .own u8 3 1 kn (ints kx), .own u7 3 1 mnRows (ints mxRows), .blk b4 38 [.int .i64 (nwN mnRows mxRows kx), .slice A_u61 ((nwG mnRows mxRows kx).length) c_u61], .blk b3 28 [.slice A_u41 mnRows c_u41], .blk b2 38 [.int .i64 (nwN mnRows mxRows kx), .slice A_u31 ((nwG mnRows mxRows kx).length) c_u31], .own (.slice A_u31 ((nwG mnRows mxRows kx).length) c_u31) 71 3 ((nwG mnRows mxRows kx).length) (ints (flCX (dcw mnRows (nwG mnRows mxRows kx)))), .own u2 3 1 kn (ints kx), .own u1 3 1 mnRows (ints mxRows), .blk b1 24 [mvRows]]
        refine Run.q (v := .int .i64 (1 + (((nwG mnRows mxRows kx).length : Nat) : Int) * 3)) rfl (OpQ.y (OpY.pure rfl)) ?_
        refine Run.done ?_
        refine Run.seq ?_
        refine Run.region ?_
        refine Run.q (v := .int .i64 1) rfl (OpQ.y (OpY.pure rfl)) ?_
        refine Run.done ?_
        refine Run.seq ?_
        refine Run.region ?_
        refine Run.q (v := .agg #[.int .i64 (nwN mnRows mxRows kx), .slice A_u61 ((nwG mnRows mxRows kx).length) c_u61]) rfl (OpQ.y (OpY.loadN (cs := [.int .i64 (nwN mnRows mxRows kx), .slice A_u61 ((nwG mnRows mxRows kx).length) c_u61]) Tagg_38 rfl (Cells.blk (.tail _ (.tail _ (.tail _ (.tail _ (.tail _ (List.Mem.head _)))))) ⟨rfl, rfl, trivial⟩))) ?_
        refine Run.q (v := .int .i64 1) rfl (OpQ.y (OpY.pure rfl)) ?_
        refine Run.q (v := .int .i64 (1 + (((nwG mnRows mxRows kx).length : Nat) : Int) * 3)) rfl (OpQ.call (vs := [.agg #[.int .i64 (nwN mnRows mxRows kx), .slice A_u61 ((nwG mnRows mxRows kx).length) c_u61], .int .i64 1]) (caps := []) Tcall_23 rfl rfl (fun w hs => heldCircuit_true (hs.slOwn (.head _)) (by omega) (by omega) rfl)) ?_
        refine Run.q (v := .int .i64 (1 + (((nwG mnRows mxRows kx).length : Nat) : Int) * 3)) rfl (OpQ.y (OpY.pure rfl)) ?_
        refine Run.done ?_
        refine Run.seq ?_
        refine Run.seq ?_
        refine Run.region ?_
        refine Run.q (v := .int .i64 (1 + (((nwG mnRows mxRows kx).length : Nat) : Int) * 3)) rfl (OpQ.y (OpY.pure rfl)) ?_
        refine Run.q (v := .bool (decide ((1 + (((nwG mnRows mxRows kx).length : Nat) : Int) * 3) < 0))) rfl (OpQ.y (OpY.pure rfl)) ?_
        refine Run.done ?_
        refine Run.cond (b := decide ((1 + (((nwG mnRows mxRows kx).length : Nat) : Int) * 3) < 0)) rfl (fun h88 => ?_) (fun h88 => ?_)
        · have p88 := h88; try simp only [decide_eq_true_eq, decide_eq_false_iff_not, beq_iff_eq, bne_iff_ne, beq_eq_false_iff_ne, ne_eq, gt_iff_lt, ge_iff_le, Int.not_lt, Int.not_le, bne_eq_false_iff_eq, Bool.not_eq_true', Bool.not_eq_false', Bool.and_eq_true, Bool.and_eq_false_iff, Bool.or_eq_true, Bool.or_eq_false_iff, Decidable.not_not, List.cons.injEq, and_true] at p88
          exact absurd h88 (by simp <;> omega) --DONE
        · have p88 := h88; try simp only [decide_eq_true_eq, decide_eq_false_iff_not, beq_iff_eq, bne_iff_ne, beq_eq_false_iff_ne, ne_eq, gt_iff_lt, ge_iff_le, Int.not_lt, Int.not_le, bne_eq_false_iff_eq, Bool.not_eq_true', Bool.not_eq_false', Bool.and_eq_true, Bool.and_eq_false_iff, Bool.or_eq_true, Bool.or_eq_false_iff, Decidable.not_not, List.cons.injEq, and_true] at p88
          refine Run.skip ?_
          refine Run.seq ?_
          refine Run.seq ?_
          refine Run.region ?_
          refine Run.q (v := .int .i64 (1 + (((nwG mnRows mxRows kx).length : Nat) : Int) * 3)) rfl (OpQ.y (OpY.pure rfl)) ?_
          refine Run.q (v := .int .i64 (1 + (((nwG mnRows mxRows kx).length : Nat) : Int) * 3)) rfl (OpQ.y (OpY.pure rfl)) ?_
          refine Run.q (v := .bool false) rfl (OpQ.y (OpY.neqSame rfl rfl rfl)) ?_
          refine Run.done ?_
          refine Run.cond (b := false) rfl (fun h => nomatch h) (fun _ => ?_)
          refine Run.skip ?_
          refine Run.seq ?_
          refine Run.region ?_
          refine Run.q (v := .agg #[mvRows]) rfl (OpQ.y (OpY.loadN (cs := [mvRows]) Tagg_24 rfl (Cells.blk (.tail _ (.tail _ (.tail _ (.tail _ (.tail _ (.tail _ (.tail _ (.tail _ (.tail _ (.tail _ (.tail _ (List.Mem.head _)))))))))))) ⟨rfl, trivial⟩))) ?_
          refine Run.step rfl (OpStep.call (vs := [.agg #[mvRows]]) (caps := []) Tcall_11 rfl rfl (fun w hs => toLinear_spec (hs.sl mhRows) (by omega)) ?_)
          rintro _ _ ⟨u9, rfl, rfl⟩
          show Run _ _ (putF _ _ _ (.agg #[u9])) [.own u9 3 1 mnRows (ints mxRows), .own (.slice A_u61 ((nwG mnRows mxRows kx).length) c_u61) 71 3 ((nwG mnRows mxRows kx).length) (ints (mks 1 (((nwG mnRows mxRows kx).length) * 3))), .own u5 3 1 kn (ints (mks (1 + ((mnRows : Nat) : Int) * 1) (kn * 1))), .own (.slice A_u41 mnRows c_u41) 3 1 mnRows (ints (mks 1 (mnRows * 1))), .own u8 3 1 kn (ints kx), .own u7 3 1 mnRows (ints mxRows), .blk b4 38 [.int .i64 (nwN mnRows mxRows kx), .slice A_u61 ((nwG mnRows mxRows kx).length) c_u61], .blk b3 28 [.slice A_u41 mnRows c_u41], .blk b2 38 [.int .i64 (nwN mnRows mxRows kx), .slice A_u31 ((nwG mnRows mxRows kx).length) c_u31], .own (.slice A_u31 ((nwG mnRows mxRows kx).length) c_u31) 71 3 ((nwG mnRows mxRows kx).length) (ints (flCX (dcw mnRows (nwG mnRows mxRows kx)))), .own u2 3 1 kn (ints kx), .own u1 3 1 mnRows (ints mxRows), .blk b1 24 [mvRows]]
          refine Run.q (v := .slice kA kn kc) rfl (OpQ.y (OpY.pure rfl)) ?_
          refine Run.step rfl (OpStep.call (vs := [.slice kA kn kc]) (caps := []) Tcall_15 rfl rfl (fun w hs => toIntS_spec (hs.sl kh) (by omega)) ?_)
          rintro u10 _ rfl
          show Run _ _ (putF _ _ _ u10) [.own u10 3 1 kn (ints kx), .own u9 3 1 mnRows (ints mxRows), .own (.slice A_u61 ((nwG mnRows mxRows kx).length) c_u61) 71 3 ((nwG mnRows mxRows kx).length) (ints (mks 1 (((nwG mnRows mxRows kx).length) * 3))), .own u5 3 1 kn (ints (mks (1 + ((mnRows : Nat) : Int) * 1) (kn * 1))), .own (.slice A_u41 mnRows c_u41) 3 1 mnRows (ints (mks 1 (mnRows * 1))), .own u8 3 1 kn (ints kx), .own u7 3 1 mnRows (ints mxRows), .blk b4 38 [.int .i64 (nwN mnRows mxRows kx), .slice A_u61 ((nwG mnRows mxRows kx).length) c_u61], .blk b3 28 [.slice A_u41 mnRows c_u41], .blk b2 38 [.int .i64 (nwN mnRows mxRows kx), .slice A_u31 ((nwG mnRows mxRows kx).length) c_u31], .own (.slice A_u31 ((nwG mnRows mxRows kx).length) c_u31) 71 3 ((nwG mnRows mxRows kx).length) (ints (flCX (dcw mnRows (nwG mnRows mxRows kx)))), .own u2 3 1 kn (ints kx), .own u1 3 1 mnRows (ints mxRows), .blk b1 24 [mvRows]]
          refine Run.step rfl (OpStep.call (vs := [.agg #[u9], u10]) (caps := []) Tcall_25 rfl rfl (fun w hs => ShortestNetwork_spec (hs.slOwn (.tail _ (List.Mem.head _))) (hs.slOwn (.head _))) ?_)
          rintro _ _ ⟨u11, rfl, rfl⟩
          show Run _ _ (putF _ _ _ (.tuple #[.agg #[.int .i64 (nwN mnRows mxRows kx), u11], .bool (nwB mnRows mxRows kx)])) [.own u11 71 3 ((nwG mnRows mxRows kx).length) (ints (flCX (dcw mnRows (nwG mnRows mxRows kx)))), .own u10 3 1 kn (ints kx), .own u9 3 1 mnRows (ints mxRows), .own (.slice A_u61 ((nwG mnRows mxRows kx).length) c_u61) 71 3 ((nwG mnRows mxRows kx).length) (ints (mks 1 (((nwG mnRows mxRows kx).length) * 3))), .own u5 3 1 kn (ints (mks (1 + ((mnRows : Nat) : Int) * 1) (kn * 1))), .own (.slice A_u41 mnRows c_u41) 3 1 mnRows (ints (mks 1 (mnRows * 1))), .own u8 3 1 kn (ints kx), .own u7 3 1 mnRows (ints mxRows), .blk b4 38 [.int .i64 (nwN mnRows mxRows kx), .slice A_u61 ((nwG mnRows mxRows kx).length) c_u61], .blk b3 28 [.slice A_u41 mnRows c_u41], .blk b2 38 [.int .i64 (nwN mnRows mxRows kx), .slice A_u31 ((nwG mnRows mxRows kx).length) c_u31], .own (.slice A_u31 ((nwG mnRows mxRows kx).length) c_u31) 71 3 ((nwG mnRows mxRows kx).length) (ints (flCX (dcw mnRows (nwG mnRows mxRows kx)))), .own u2 3 1 kn (ints kx), .own u1 3 1 mnRows (ints mxRows), .blk b1 24 [mvRows]]
          refine Run.q (v := .tuple #[.agg #[.int .i64 (nwN mnRows mxRows kx), u11], .bool (nwB mnRows mxRows kx)]) rfl (OpQ.y (OpY.pure rfl)) ?_
          refine Run.q (v := .agg #[.int .i64 (nwN mnRows mxRows kx), u11]) rfl (OpQ.y (OpY.pure rfl)) ?_
          refine Run.q (v := .bool (nwB mnRows mxRows kx)) rfl (OpQ.y (OpY.pure rfl)) ?_
          refine Run.step rfl (OpStep.alloc (zs := [.int .i64 0, .slice none 0 0]) Tzero_38 fun b5 => ?_)
          refine Run.formOwn (.tail _ (List.Mem.head _)) (fun A_u111 c_u111 hv hcapc_u111 hmaxc_u111 => ?_) (fun _ _ _ => ⟨nofun, nofun, nofun⟩)
          subst hv
          refine Run.step rfl (OpStep.storeAll (us := [.int .i64 (nwN mnRows mxRows kx), .slice A_u111 ((nwG mnRows mxRows kx).length) c_u111]) Tsize_38 rfl rfl rfl (.here _) rfl ?_)
          refine Run.q (v := .bool (nwB mnRows mxRows kx)) rfl (OpQ.y (OpY.pure rfl)) ?_
          refine Run.done ?_
          refine Run.seq ?_
          refine Run.seq ?_
          refine Run.region ?_
          refine Run.q (v := .agg #[.int .i64 (nwN mnRows mxRows kx), .slice A_u111 ((nwG mnRows mxRows kx).length) c_u111]) rfl (OpQ.y (OpY.loadN (cs := [.int .i64 (nwN mnRows mxRows kx), .slice A_u111 ((nwG mnRows mxRows kx).length) c_u111]) Tagg_38 rfl (Cells.blk (.head _) ⟨rfl, rfl, trivial⟩))) ?_
          refine Run.q (v := .agg #[.int .i64 (nwN mnRows mxRows kx), .slice A_u31 ((nwG mnRows mxRows kx).length) c_u31]) rfl (OpQ.y (OpY.loadN (cs := [.int .i64 (nwN mnRows mxRows kx), .slice A_u31 ((nwG mnRows mxRows kx).length) c_u31]) Tagg_38 rfl (Cells.blk (.tail _ (.tail _ (.tail _ (.tail _ (.tail _ (.tail _ (.tail _ (.tail _ (.tail _ (.tail _ (.tail _ (List.Mem.head _)))))))))))) ⟨rfl, rfl, trivial⟩))) ?_
          refine Run.q (v := .bool true) rfl (OpQ.call (vs := [.agg #[.int .i64 (nwN mnRows mxRows kx), .slice A_u111 ((nwG mnRows mxRows kx).length) c_u111], .agg #[.int .i64 (nwN mnRows mxRows kx), .slice A_u31 ((nwG mnRows mxRows kx).length) c_u31]]) (caps := []) Tcall_20 rfl rfl (fun w hs => eqCircuit_true (hs.slOwn (.tail _ (List.Mem.head _))) (hs.slOwn (.tail _ (.tail _ (.tail _ (.tail _ (.tail _ (.tail _ (.tail _ (.tail _ (.tail _ (.tail _ (.tail _ (.tail _ (List.Mem.head _)))))))))))))))) ?_
          refine Run.q (v := .bool false) rfl (OpQ.y (OpY.pure rfl)) ?_
          refine Run.q (v := .bool false) rfl (OpQ.y (OpY.pure rfl)) ?_
          refine Run.q (v := .bool (nwB mnRows mxRows kx)) rfl (OpQ.y (OpY.pure rfl)) ?_
          refine Run.q (v := .bool (nwB mnRows mxRows kx)) rfl (OpQ.y (OpY.pure rfl)) ?_
          refine Run.q (v := .bool false) rfl (OpQ.y (OpY.neqBSame Tbool_4 rfl rfl rfl)) ?_
          refine Run.q (v := .bool false) rfl (OpQ.y (OpY.pure rfl)) ?_
          refine Run.done ?_
          refine Run.cond (b := false) rfl (fun h => nomatch h) (fun _ => ?_)
          refine Run.skip ?_
          refine Run.seq ?_
          refine Run.region ?_
          refine Run.q (v := .int .i64 1) rfl (OpQ.y (OpY.pure rfl)) ?_
          refine Run.done ?_
          refine Run.seq ?_
          refine Run.region ?_
          refine Run.q (v := .agg #[.int .i64 (nwN mnRows mxRows kx), .slice A_u61 ((nwG mnRows mxRows kx).length) c_u61]) rfl (OpQ.y (OpY.loadN (cs := [.int .i64 (nwN mnRows mxRows kx), .slice A_u61 ((nwG mnRows mxRows kx).length) c_u61]) Tagg_38 rfl (Cells.blk (.tail _ (.tail _ (.tail _ (.tail _ (.tail _ (.tail _ (.tail _ (.tail _ (.tail _ (List.Mem.head _)))))))))) ⟨rfl, rfl, trivial⟩))) ?_
          refine Run.q (v := .int .i64 1) rfl (OpQ.y (OpY.pure rfl)) ?_
          refine Run.q (v := .int .i64 (1 + (((nwG mnRows mxRows kx).length : Nat) : Int) * 3)) rfl (OpQ.call (vs := [.agg #[.int .i64 (nwN mnRows mxRows kx), .slice A_u61 ((nwG mnRows mxRows kx).length) c_u61], .int .i64 1]) (caps := []) Tcall_23 rfl rfl (fun w hs => heldCircuit_true (hs.slOwn (.tail _ (.tail _ (.tail _ (.tail _ (List.Mem.head _)))))) (by omega) (by omega) rfl)) ?_
          refine Run.q (v := .int .i64 (1 + (((nwG mnRows mxRows kx).length : Nat) : Int) * 3)) rfl (OpQ.y (OpY.pure rfl)) ?_
          refine Run.done ?_
          refine Run.seq ?_
          refine Run.seq ?_
          refine Run.region ?_
          refine Run.q (v := .int .i64 (1 + (((nwG mnRows mxRows kx).length : Nat) : Int) * 3)) rfl (OpQ.y (OpY.pure rfl)) ?_
          refine Run.q (v := .bool (decide ((1 + (((nwG mnRows mxRows kx).length : Nat) : Int) * 3) < 0))) rfl (OpQ.y (OpY.pure rfl)) ?_
          refine Run.done ?_
          refine Run.cond (b := decide ((1 + (((nwG mnRows mxRows kx).length : Nat) : Int) * 3) < 0)) rfl (fun h113 => ?_) (fun h113 => ?_)
          · have p113 := h113; try simp only [decide_eq_true_eq, decide_eq_false_iff_not, beq_iff_eq, bne_iff_ne, beq_eq_false_iff_ne, ne_eq, gt_iff_lt, ge_iff_le, Int.not_lt, Int.not_le, bne_eq_false_iff_eq, Bool.not_eq_true', Bool.not_eq_false', Bool.and_eq_true, Bool.and_eq_false_iff, Bool.or_eq_true, Bool.or_eq_false_iff, Decidable.not_not, List.cons.injEq, and_true] at p113
            exact absurd h113 (by simp <;> omega) --DONE
          · have p113 := h113; try simp only [decide_eq_true_eq, decide_eq_false_iff_not, beq_iff_eq, bne_iff_ne, beq_eq_false_iff_ne, ne_eq, gt_iff_lt, ge_iff_le, Int.not_lt, Int.not_le, bne_eq_false_iff_eq, Bool.not_eq_true', Bool.not_eq_false', Bool.and_eq_true, Bool.and_eq_false_iff, Bool.or_eq_true, Bool.or_eq_false_iff, Decidable.not_not, List.cons.injEq, and_true] at p113
            refine Run.skip ?_
            refine Run.seq ?_
            refine Run.seq ?_
            refine Run.region ?_
            refine Run.q (v := .int .i64 (1 + (((nwG mnRows mxRows kx).length : Nat) : Int) * 3)) rfl (OpQ.y (OpY.pure rfl)) ?_
            refine Run.q (v := .int .i64 (1 + (((nwG mnRows mxRows kx).length : Nat) : Int) * 3)) rfl (OpQ.y (OpY.pure rfl)) ?_
            refine Run.q (v := .bool false) rfl (OpQ.y (OpY.neqSame rfl rfl rfl)) ?_
            refine Run.done ?_
            refine Run.cond (b := false) rfl (fun h => nomatch h) (fun _ => ?_)
            refine Run.skip ?_
            refine Run.seq ?_
            refine Run.region ?_
            refine Run.q (v := .bool true) rfl (OpQ.y (OpY.pure rfl)) ?_
            refine Run.done ?_
            refine Run.ret ?_
            refine ⟨.bool true, [], Out.one rfl rfl, (Some'.weak (.nil _)), ?_⟩
            rfl

end Go.Proofs.Yteehfidjofcfmaa
