/- The walk of the law FnExactIsExecutable. -/
import Derived.Test.YtbpllboldphhiaaEx
import Derived.Test.YtbpllboldphhiaaInts
import Derived.Test.YtbpllboldphhiaaProg
set_option linter.unusedSimpArgs false
set_option linter.unusedVariables false
namespace Go.Proofs.Ytbpllboldphhiaa
open Go Go.RowKit
namespace L16T
theorem Tagg_24 : aggOf Try.prog 24 = some 2 := by kernel_rfl
theorem Tagg_31 : aggOf Try.prog 31 = some 2 := by kernel_rfl
theorem Tagg_40 : aggOf Try.prog 40 = some 2 := by kernel_rfl
theorem Tagg_46 : aggOf Try.prog 46 = some 2 := by kernel_rfl
theorem Tbool_4 : Try.prog.underlying 4 = some .bool := by kernel_rfl
theorem Tcall_15 : callable Try.prog 15 = true := by kernel_rfl
theorem Tcall_17 : callable Try.prog 17 = true := by kernel_rfl
theorem Tcall_20 : callable Try.prog 20 = true := by kernel_rfl
theorem Tcall_24 : callable Try.prog 24 = true := by kernel_rfl
theorem Tcall_25 : callable Try.prog 25 = true := by kernel_rfl
theorem Tcall_26 : callable Try.prog 26 = true := by kernel_rfl
theorem Tcall_27 : callable Try.prog 27 = true := by kernel_rfl
theorem Tcall_28 : callable Try.prog 28 = true := by kernel_rfl
theorem Tsize_31 : (Try.prog.info? 31).map (·.size) = some 2 := by kernel_rfl
theorem Tsize_46 : (Try.prog.info? 46).map (·.size) = some 2 := by kernel_rfl
theorem Tzero_31 : zeroOf Try.prog 31 = some [.int .i64 0, .slice none 0 0] := by kernel_rfl
theorem Tzero_46 : zeroOf Try.prog 46 = some [.int .i64 0, .slice none 0 0] := by kernel_rfl
end L16T
open L16T
set_option maxHeartbeats 1000000 in
set_option maxRecDepth 20000 in
theorem law_spec {gNodes : Int} {gvEdges : Value} {gnEdges : Nat} {gxEdges : List Int} {cQubits : Int} {cvGates : Value} {cnGates : Nat} {cxGates : List Int} {w : World} (gwNodes : In64 gNodes) (ghEdges : Sl w gvEdges 2 gnEdges (ints gxEdges)) (gwEdges : ∀ x ∈ gxEdges, In64 x) (cwQubits : In64 cQubits) (chGates : Sl w cvGates 3 cnGates (ints cxGates)) (cwGates : ∀ x ∈ cxGates, In64 x) : Calls Try.prog 4 #[.agg #[.int .i64 gNodes, gvEdges], .agg #[.int .i64 cQubits, cvGates]] w (Post No w fun v _ => v = .bool true) := by
  refine enter (n := 58) (args := [.agg #[.int .i64 gNodes, gvEdges], .agg #[.int .i64 cQubits, cvGates]]) Try.func4 rfl rfl (St.empty _ _) ?_
  refine Run.seq ?_
  refine Run.region ?_
  refine Run.step rfl (OpStep.box (us := [.int .i64 gNodes, gvEdges]) rfl fun b1 => ?_)
  refine Run.step rfl (OpStep.box (us := [.int .i64 cQubits, cvGates]) rfl fun b2 => ?_)
  refine Run.q (v := .bool false) rfl (OpQ.y (OpY.pure rfl)) ?_
  refine Run.done ?_
  refine Run.seq ?_
  refine Run.region ?_
  refine Run.q (v := .int .i64 1048576) rfl (OpQ.y (OpY.pure rfl)) ?_
  refine Run.done ?_
  refine Run.seq ?_
  refine Run.region ?_
  refine Run.q (v := .agg #[.int .i64 gNodes, gvEdges]) rfl (OpQ.y (OpY.loadN (cs := [.int .i64 gNodes, gvEdges]) Tagg_40 rfl (Cells.blk (.tail _ (List.Mem.head _)) ⟨rfl, rfl, trivial⟩))) ?_
  refine Run.q (v := .int .i64 1048576) rfl (OpQ.y (OpY.pure rfl)) ?_
  refine Run.q (v := .int .i64 (szN 1048576 [gnEdges])) rfl (OpQ.call (vs := [.agg #[.int .i64 gNodes, gvEdges], .int .i64 1048576]) (caps := []) Tcall_24 rfl rfl (fun w hs => szCouplingGraph_spec (hs.sl ghEdges) (by omega) (by omega))) ?_
  refine Run.q (v := .int .i64 (szN 1048576 [gnEdges])) rfl (OpQ.y (OpY.pure rfl)) ?_
  refine Run.done ?_
  refine Run.seq ?_
  refine Run.seq ?_
  refine Run.region ?_
  refine Run.q (v := .int .i64 (szN 1048576 [gnEdges])) rfl (OpQ.y (OpY.pure rfl)) ?_
  refine Run.q (v := .bool (decide ((szN 1048576 [gnEdges]) < 0))) rfl (OpQ.y (OpY.pure rfl)) ?_
  refine Run.done ?_
  refine Run.cond (b := decide ((szN 1048576 [gnEdges]) < 0)) rfl (fun h16 => ?_) (fun h16 => ?_)
  · have p16 := h16; try simp only [decide_eq_true_eq, decide_eq_false_iff_not, beq_iff_eq, bne_iff_ne, beq_eq_false_iff_ne, ne_eq, gt_iff_lt, ge_iff_le, Int.not_lt, Int.not_le, bne_eq_false_iff_eq, Bool.not_eq_true', Bool.not_eq_false', Bool.and_eq_true, Bool.and_eq_false_iff, Bool.or_eq_true, Bool.or_eq_false_iff, Decidable.not_not, List.cons.injEq, and_true] at p16
    refine Run.seq ?_
    refine Run.region ?_
    refine Run.q (v := .bool true) rfl (OpQ.y (OpY.pure rfl)) ?_
    refine Run.done ?_
    refine Run.ret ?_
    refine ⟨.bool true, [], Out.one rfl rfl, (Some'.weak (.nil _)), ?_⟩
    rfl
  · have p16 := h16; try simp only [decide_eq_true_eq, decide_eq_false_iff_not, beq_iff_eq, bne_iff_ne, beq_eq_false_iff_ne, ne_eq, gt_iff_lt, ge_iff_le, Int.not_lt, Int.not_le, bne_eq_false_iff_eq, Bool.not_eq_true', Bool.not_eq_false', Bool.and_eq_true, Bool.and_eq_false_iff, Bool.or_eq_true, Bool.or_eq_false_iff, Decidable.not_not, List.cons.injEq, and_true] at p16
    have hz16 := szN_bound (ns := [gnEdges]) (l := 1048576) p16
    have hz16gnEdges := hz16 gnEdges (by simp)
    refine Run.skip ?_
    refine Run.seq ?_
    refine Run.region ?_
    refine Run.q (v := .agg #[.int .i64 cQubits, cvGates]) rfl (OpQ.y (OpY.loadN (cs := [.int .i64 cQubits, cvGates]) Tagg_24 rfl (Cells.blk (.head _) ⟨rfl, rfl, trivial⟩))) ?_
    refine Run.q (v := .int .i64 (szN 1048576 [gnEdges])) rfl (OpQ.y (OpY.pure rfl)) ?_
    refine Run.q (v := .int .i64 (szN (szN 1048576 [gnEdges]) [cnGates])) rfl (OpQ.call (vs := [.agg #[.int .i64 cQubits, cvGates], .int .i64 (szN 1048576 [gnEdges])]) (caps := []) Tcall_15 rfl rfl (fun w hs => szCircuit_spec (hs.sl chGates) (by omega) (by omega))) ?_
    refine Run.q (v := .int .i64 (szN (szN 1048576 [gnEdges]) [cnGates])) rfl (OpQ.y (OpY.pure rfl)) ?_
    refine Run.done ?_
    refine Run.seq ?_
    refine Run.seq ?_
    refine Run.region ?_
    refine Run.q (v := .int .i64 (szN (szN 1048576 [gnEdges]) [cnGates])) rfl (OpQ.y (OpY.pure rfl)) ?_
    refine Run.q (v := .bool (decide ((szN (szN 1048576 [gnEdges]) [cnGates]) < 0))) rfl (OpQ.y (OpY.pure rfl)) ?_
    refine Run.done ?_
    refine Run.cond (b := decide ((szN (szN 1048576 [gnEdges]) [cnGates]) < 0)) rfl (fun h21 => ?_) (fun h21 => ?_)
    · have p21 := h21; try simp only [decide_eq_true_eq, decide_eq_false_iff_not, beq_iff_eq, bne_iff_ne, beq_eq_false_iff_ne, ne_eq, gt_iff_lt, ge_iff_le, Int.not_lt, Int.not_le, bne_eq_false_iff_eq, Bool.not_eq_true', Bool.not_eq_false', Bool.and_eq_true, Bool.and_eq_false_iff, Bool.or_eq_true, Bool.or_eq_false_iff, Decidable.not_not, List.cons.injEq, and_true] at p21
      refine Run.seq ?_
      refine Run.region ?_
      refine Run.q (v := .bool true) rfl (OpQ.y (OpY.pure rfl)) ?_
      refine Run.done ?_
      refine Run.ret ?_
      refine ⟨.bool true, [], Out.one rfl rfl, (Some'.weak (.nil _)), ?_⟩
      rfl
    · have p21 := h21; try simp only [decide_eq_true_eq, decide_eq_false_iff_not, beq_iff_eq, bne_iff_ne, beq_eq_false_iff_ne, ne_eq, gt_iff_lt, ge_iff_le, Int.not_lt, Int.not_le, bne_eq_false_iff_eq, Bool.not_eq_true', Bool.not_eq_false', Bool.and_eq_true, Bool.and_eq_false_iff, Bool.or_eq_true, Bool.or_eq_false_iff, Decidable.not_not, List.cons.injEq, and_true] at p21
      have hz21 := szN_bound (ns := [cnGates]) (l := (szN 1048576 [gnEdges])) p21
      have hz21cnGates := hz21 cnGates (by simp)
      refine Run.skip ?_
      refine Run.seq ?_
      refine Run.held (by kernel_rfl) ?_
      refine DW.take (i := 0) (v := .agg #[.int .i64 gNodes, gvEdges]) rfl (by kernel_rfl) (by kernel_rfl) (by kernel_rfl) (fun _ _ _ h => h) (Weak.refl _) rfl (OpY.loadN (cs := [.int .i64 gNodes, gvEdges]) Tagg_40 rfl (Cells.blk (.tail _ (List.Mem.head _)) ⟨rfl, rfl, trivial⟩)) ?_
      refine DW.take (i := 2) (v := .agg #[.int .i64 cQubits, cvGates]) rfl (by kernel_rfl) (by kernel_rfl) (by kernel_rfl) (fun _ _ _ h => h) (Weak.refl _) rfl (OpY.loadN (cs := [.int .i64 cQubits, cvGates]) Tagg_24 rfl (Cells.blk (.head _) ⟨rfl, rfl, trivial⟩)) ?_
      refine DW.step (i := 1) (by kernel_rfl) rfl rfl (OpStep.call (vs := [.agg #[.int .i64 gNodes, gvEdges]]) (caps := []) Tcall_26 rfl rfl (fun w hs => toCouplingGraph_spec (hs.sl ghEdges) (by omega)) ?_)
      rintro _ _ ⟨u1, rfl, rfl⟩
      refine ⟨(Some'.weak (.skip (.take (.take (.nil _))))), ?_⟩
      refine DW.step (i := 3) (by kernel_rfl) rfl rfl (OpStep.call (vs := [.agg #[.int .i64 cQubits, cvGates]]) (caps := []) Tcall_17 rfl rfl (fun w hs => toCircuit_spec (hs.sl chGates) (by omega)) ?_)
      rintro _ _ ⟨u2, rfl, rfl⟩
      refine ⟨(Some'.weak (.skip (.skip (.take (.take (.nil _)))))), ?_⟩
      refine DW.step (i := 4) (by kernel_rfl) rfl rfl (OpStep.q (v := .tuple #[.bool (exOk gNodes gxEdges gnEdges cQubits cxGates cnGates && exR gxEdges gnEdges cxGates cnGates), .bool (exOk gNodes gxEdges gnEdges cQubits cxGates cnGates)]) (OpQ.call (vs := [.agg #[.int .i64 gNodes, u1], .agg #[.int .i64 cQubits, u2]]) (caps := []) Tcall_25 rfl rfl (fun w hs => sIsExecutable_spec gwNodes gwEdges (hs.slOwn (.tail _ (List.Mem.head _))) (hs.slOwn (.head _)))) ?_)
      refine ⟨(Some'.weak (.skip (.skip (.take (.take (.nil _)))))), ?_⟩
      refine DW.take (i := 5) (v := .tuple #[.bool (exOk gNodes gxEdges gnEdges cQubits cxGates cnGates && exR gxEdges gnEdges cxGates cnGates), .bool (exOk gNodes gxEdges gnEdges cQubits cxGates cnGates)]) rfl (by kernel_rfl) (by kernel_rfl) (by kernel_rfl) (fun _ _ _ h => h) (Some'.weak (.skip (.skip (.take (.take (.nil _)))))) rfl (OpY.pure rfl) ?_
      refine DW.take (i := 6) (v := .bool (exOk gNodes gxEdges gnEdges cQubits cxGates cnGates && exR gxEdges gnEdges cxGates cnGates)) rfl (by kernel_rfl) (by kernel_rfl) (by kernel_rfl) (fun _ _ _ h => h) (Some'.weak (.skip (.skip (.take (.take (.nil _)))))) rfl (OpY.pure rfl) ?_
      refine DW.take (i := 7) (v := .bool (exOk gNodes gxEdges gnEdges cQubits cxGates cnGates)) rfl (by kernel_rfl) (by kernel_rfl) (by kernel_rfl) (fun _ _ _ h => h) (Some'.weak (.skip (.skip (.take (.take (.nil _)))))) rfl (OpY.pure rfl) ?_
      refine DW.take (i := 8) (v := .bool (exOk gNodes gxEdges gnEdges cQubits cxGates cnGates && exR gxEdges gnEdges cxGates cnGates)) rfl (by kernel_rfl) (by kernel_rfl) (by kernel_rfl) (fun _ _ _ h => h) (Some'.weak (.skip (.skip (.take (.take (.nil _)))))) rfl (OpY.pure rfl) ?_
      refine DW.take (i := 9) (v := .bool (exOk gNodes gxEdges gnEdges cQubits cxGates cnGates)) rfl (by kernel_rfl) (by kernel_rfl) (by kernel_rfl) (fun _ _ _ h => h) (Some'.weak (.skip (.skip (.take (.take (.nil _)))))) rfl (OpY.pure rfl) ?_
      refine DW.done (by kernel_rfl) ?_
      refine Run.seq ?_
      refine Run.region ?_
      refine Run.q (v := .agg #[.int .i64 gNodes, gvEdges]) rfl (OpQ.y (OpY.loadN (cs := [.int .i64 gNodes, gvEdges]) Tagg_40 rfl (Cells.blk (.tail _ (.tail _ (.tail _ (List.Mem.head _)))) ⟨rfl, rfl, trivial⟩))) ?_
      refine Run.step rfl (OpStep.call (vs := [.agg #[.int .i64 gNodes, gvEdges]]) (caps := []) Tcall_26 rfl rfl (fun w hs => toCouplingGraph_spec (hs.sl ghEdges) (by omega)) ?_)
      rintro _ _ ⟨u3, rfl, rfl⟩
      show Run _ _ (putF _ _ _ (.agg #[.int .i64 gNodes, u3])) [.own u3 180 2 gnEdges (ints gxEdges), .own u2 124 3 cnGates (ints cxGates), .own u1 180 2 gnEdges (ints gxEdges), .blk b2 24 [.int .i64 cQubits, cvGates], .blk b1 40 [.int .i64 gNodes, gvEdges]]
      refine Run.step rfl (OpStep.alloc (zs := [.int .i64 0, .slice none 0 0]) Tzero_46 fun b3 => ?_)
      refine Run.formOwn (.tail _ (List.Mem.head _)) (fun A_u31 c_u31 hv hcapc_u31 hmaxc_u31 => ?_) (fun _ _ _ => ⟨nofun, nofun, nofun⟩)
      subst hv
      refine Run.step rfl (OpStep.storeAll (us := [.int .i64 gNodes, .slice A_u31 gnEdges c_u31]) Tsize_46 rfl rfl rfl (.here _) rfl ?_)
      refine Run.done ?_
      refine Run.seq ?_
      refine Run.region ?_
      refine Run.q (v := .agg #[.int .i64 cQubits, cvGates]) rfl (OpQ.y (OpY.loadN (cs := [.int .i64 cQubits, cvGates]) Tagg_24 rfl (Cells.blk (.tail _ (.tail _ (.tail _ (.tail _ (List.Mem.head _))))) ⟨rfl, rfl, trivial⟩))) ?_
      refine Run.step rfl (OpStep.call (vs := [.agg #[.int .i64 cQubits, cvGates]]) (caps := []) Tcall_17 rfl rfl (fun w hs => toCircuit_spec (hs.sl chGates) (by omega)) ?_)
      rintro _ _ ⟨u4, rfl, rfl⟩
      show Run _ _ (putF _ _ _ (.agg #[.int .i64 cQubits, u4])) [.own u4 124 3 cnGates (ints cxGates), .blk b3 46 [.int .i64 gNodes, .slice A_u31 gnEdges c_u31], .own (.slice A_u31 gnEdges c_u31) 180 2 gnEdges (ints gxEdges), .own u2 124 3 cnGates (ints cxGates), .own u1 180 2 gnEdges (ints gxEdges), .blk b2 24 [.int .i64 cQubits, cvGates], .blk b1 40 [.int .i64 gNodes, gvEdges]]
      refine Run.step rfl (OpStep.alloc (zs := [.int .i64 0, .slice none 0 0]) Tzero_31 fun b4 => ?_)
      refine Run.formOwn (.tail _ (List.Mem.head _)) (fun A_u41 c_u41 hv hcapc_u41 hmaxc_u41 => ?_) (fun _ _ _ => ⟨nofun, nofun, nofun⟩)
      subst hv
      refine Run.step rfl (OpStep.storeAll (us := [.int .i64 cQubits, .slice A_u41 cnGates c_u41]) Tsize_31 rfl rfl rfl (.here _) rfl ?_)
      refine Run.done ?_
      refine Run.seq ?_
      refine Run.region ?_
      refine Run.q (v := .agg #[.int .i64 gNodes, .slice A_u31 gnEdges c_u31]) rfl (OpQ.y (OpY.loadN (cs := [.int .i64 gNodes, .slice A_u31 gnEdges c_u31]) Tagg_46 rfl (Cells.blk (.tail _ (.tail _ (List.Mem.head _))) ⟨rfl, rfl, trivial⟩))) ?_
      refine Run.q (v := .agg #[.int .i64 cQubits, .slice A_u41 cnGates c_u41]) rfl (OpQ.y (OpY.loadN (cs := [.int .i64 cQubits, .slice A_u41 cnGates c_u41]) Tagg_31 rfl (Cells.blk (.head _) ⟨rfl, rfl, trivial⟩))) ?_
      refine Run.q (v := .tuple #[.bool (exOk gNodes gxEdges gnEdges cQubits cxGates cnGates && exR gxEdges gnEdges cxGates cnGates), .bool (exOk gNodes gxEdges gnEdges cQubits cxGates cnGates)]) rfl (OpQ.call (vs := [.agg #[.int .i64 gNodes, .slice A_u31 gnEdges c_u31], .agg #[.int .i64 cQubits, .slice A_u41 cnGates c_u41]]) (caps := []) Tcall_27 rfl rfl (fun w hs => IsExecutable_spec (hs.slOwn (.tail _ (.tail _ (.tail _ (List.Mem.head _))))) (hs.slOwn (.tail _ (List.Mem.head _))))) ?_
      refine Run.q (v := .tuple #[.bool (exOk gNodes gxEdges gnEdges cQubits cxGates cnGates && exR gxEdges gnEdges cxGates cnGates), .bool (exOk gNodes gxEdges gnEdges cQubits cxGates cnGates)]) rfl (OpQ.y (OpY.pure rfl)) ?_
      refine Run.q (v := .bool (exOk gNodes gxEdges gnEdges cQubits cxGates cnGates && exR gxEdges gnEdges cxGates cnGates)) rfl (OpQ.y (OpY.pure rfl)) ?_
      refine Run.q (v := .bool (exOk gNodes gxEdges gnEdges cQubits cxGates cnGates)) rfl (OpQ.y (OpY.pure rfl)) ?_
      refine Run.q (v := .bool (exOk gNodes gxEdges gnEdges cQubits cxGates cnGates && exR gxEdges gnEdges cxGates cnGates)) rfl (OpQ.y (OpY.pure rfl)) ?_
      refine Run.q (v := .bool (exOk gNodes gxEdges gnEdges cQubits cxGates cnGates)) rfl (OpQ.y (OpY.pure rfl)) ?_
      refine Run.done ?_
      refine Run.seq ?_
      refine Run.seq ?_
      refine Run.region ?_
      refine Run.q (v := .bool (exOk gNodes gxEdges gnEdges cQubits cxGates cnGates && exR gxEdges gnEdges cxGates cnGates)) rfl (OpQ.y (OpY.pure rfl)) ?_
      refine Run.q (v := .bool (exOk gNodes gxEdges gnEdges cQubits cxGates cnGates && exR gxEdges gnEdges cxGates cnGates)) rfl (OpQ.y (OpY.pure rfl)) ?_
      refine Run.q (v := .bool false) rfl (OpQ.y (OpY.neqBSame Tbool_4 rfl rfl rfl)) ?_
      refine Run.q (v := .bool false) rfl (OpQ.y (OpY.pure rfl)) ?_
      refine Run.q (v := .bool (exOk gNodes gxEdges gnEdges cQubits cxGates cnGates)) rfl (OpQ.y (OpY.pure rfl)) ?_
      refine Run.q (v := .bool (exOk gNodes gxEdges gnEdges cQubits cxGates cnGates)) rfl (OpQ.y (OpY.pure rfl)) ?_
      refine Run.q (v := .bool false) rfl (OpQ.y (OpY.neqBSame Tbool_4 rfl rfl rfl)) ?_
      refine Run.q (v := .bool false) rfl (OpQ.y (OpY.pure rfl)) ?_
      refine Run.done ?_
      refine Run.cond (b := false) rfl (fun h => nomatch h) (fun _ => ?_)
      refine Run.skip ?_
      refine Run.seq ?_
      refine Run.seq ?_
      refine Run.held (by kernel_rfl) ?_
      refine DW.take (i := 0) (v := .agg #[.int .i64 gNodes, .slice A_u31 gnEdges c_u31]) rfl (by kernel_rfl) (by kernel_rfl) (by kernel_rfl) (fun _ _ _ h => h) (Weak.refl _) rfl (OpY.loadN (cs := [.int .i64 gNodes, .slice A_u31 gnEdges c_u31]) Tagg_46 rfl (Cells.blk (.tail _ (.tail _ (List.Mem.head _))) ⟨rfl, rfl, trivial⟩)) ?_
      refine DW.take (i := 1) (v := .agg #[.int .i64 gNodes, gvEdges]) rfl (by kernel_rfl) (by kernel_rfl) (by kernel_rfl) (fun _ _ _ h => h) (Weak.refl _) rfl (OpY.loadN (cs := [.int .i64 gNodes, gvEdges]) Tagg_40 rfl (Cells.blk (.tail _ (.tail _ (.tail _ (.tail _ (.tail _ (.tail _ (.tail _ (List.Mem.head _)))))))) ⟨rfl, rfl, trivial⟩)) ?_
      refine DW.step (i := 2) (by kernel_rfl) rfl rfl (OpStep.call (vs := [.agg #[.int .i64 gNodes, gvEdges]]) (caps := []) Tcall_26 rfl rfl (fun w hs => toCouplingGraph_spec (hs.sl ghEdges) (by omega)) ?_)
      rintro _ _ ⟨u5, rfl, rfl⟩
      refine ⟨(Some'.weak (.skip (.take (.take (.take (.take (.take (.take (.take (.take (.nil _))))))))))), ?_⟩
      refine DW.step (i := 3) (by kernel_rfl) rfl rfl (OpStep.q (v := .bool true) (OpQ.call (vs := [.agg #[.int .i64 gNodes, .slice A_u31 gnEdges c_u31], .agg #[.int .i64 gNodes, u5]]) (caps := []) Tcall_28 rfl rfl (fun w hs => eqCouplingGraph_true (hs.slOwn (.tail _ (.tail _ (.tail _ (.tail _ (List.Mem.head _)))))) (hs.slOwn (.head _)))) ?_)
      refine ⟨(Some'.weak (.skip (.take (.take (.take (.take (.take (.take (.take (.take (.nil _))))))))))), ?_⟩
      refine DW.take (i := 4) (v := .bool false) rfl (by kernel_rfl) (by kernel_rfl) (by kernel_rfl) (fun _ _ _ h => h) (Some'.weak (.skip (.take (.take (.take (.take (.take (.take (.take (.take (.nil _))))))))))) rfl (OpY.pure rfl) ?_
      refine DW.done (by kernel_rfl) ?_
      refine Run.cond (b := false) rfl (fun h => nomatch h) (fun _ => ?_)
      refine Run.skip ?_
      refine Run.seq ?_
      refine Run.seq ?_
      refine Run.held (by kernel_rfl) ?_
      refine DW.take (i := 0) (v := .agg #[.int .i64 cQubits, .slice A_u41 cnGates c_u41]) rfl (by kernel_rfl) (by kernel_rfl) (by kernel_rfl) (fun _ _ _ h => h) (Weak.refl _) rfl (OpY.loadN (cs := [.int .i64 cQubits, .slice A_u41 cnGates c_u41]) Tagg_31 rfl (Cells.blk (.tail _ (List.Mem.head _)) ⟨rfl, rfl, trivial⟩)) ?_
      refine DW.take (i := 1) (v := .agg #[.int .i64 cQubits, cvGates]) rfl (by kernel_rfl) (by kernel_rfl) (by kernel_rfl) (fun _ _ _ h => h) (Weak.refl _) rfl (OpY.loadN (cs := [.int .i64 cQubits, cvGates]) Tagg_24 rfl (Cells.blk (.tail _ (.tail _ (.tail _ (.tail _ (.tail _ (.tail _ (.tail _ (List.Mem.head _)))))))) ⟨rfl, rfl, trivial⟩)) ?_
      refine DW.step (i := 2) (by kernel_rfl) rfl rfl (OpStep.call (vs := [.agg #[.int .i64 cQubits, cvGates]]) (caps := []) Tcall_17 rfl rfl (fun w hs => toCircuit_spec (hs.sl chGates) (by omega)) ?_)
      rintro _ _ ⟨u6, rfl, rfl⟩
      refine ⟨(Some'.weak (.skip (.take (.take (.take (.take (.take (.take (.take (.take (.take (.nil _)))))))))))), ?_⟩
      refine DW.step (i := 3) (by kernel_rfl) rfl rfl (OpStep.q (v := .bool true) (OpQ.call (vs := [.agg #[.int .i64 cQubits, .slice A_u41 cnGates c_u41], .agg #[.int .i64 cQubits, u6]]) (caps := []) Tcall_20 rfl rfl (fun w hs => eqCircuit_true (hs.slOwn (.tail _ (.tail _ (.tail _ (List.Mem.head _))))) (hs.slOwn (.head _)))) ?_)
      refine ⟨(Some'.weak (.skip (.take (.take (.take (.take (.take (.take (.take (.take (.take (.nil _)))))))))))), ?_⟩
      refine DW.take (i := 4) (v := .bool false) rfl (by kernel_rfl) (by kernel_rfl) (by kernel_rfl) (fun _ _ _ h => h) (Some'.weak (.skip (.take (.take (.take (.take (.take (.take (.take (.take (.take (.nil _)))))))))))) rfl (OpY.pure rfl) ?_
      refine DW.done (by kernel_rfl) ?_
      refine Run.cond (b := false) rfl (fun h => nomatch h) (fun _ => ?_)
      refine Run.skip ?_
      refine Run.seq ?_
      refine Run.region ?_
      refine Run.q (v := .bool true) rfl (OpQ.y (OpY.pure rfl)) ?_
      refine Run.done ?_
      refine Run.ret ?_
      refine ⟨.bool true, [], Out.one rfl rfl, (Some'.weak (.nil _)), ?_⟩
      rfl

end Go.Proofs.Ytbpllboldphhiaa
