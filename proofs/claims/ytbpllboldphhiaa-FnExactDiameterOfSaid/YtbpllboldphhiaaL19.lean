/- The walk of the law FnExactDiameterOf. -/
import Derived.Test.YtbpllboldphhiaaDi
import Derived.Test.YtbpllboldphhiaaProg
set_option linter.unusedSimpArgs false
set_option linter.unusedVariables false
namespace Go.Proofs.Ytbpllboldphhiaa
open Go Go.RowKit
namespace L19T
theorem Tagg_40 : aggOf Try.prog 40 = some 2 := by kernel_rfl
theorem Tagg_46 : aggOf Try.prog 46 = some 2 := by kernel_rfl
theorem Tbool_4 : Try.prog.underlying 4 = some .bool := by kernel_rfl
theorem Tcall_24 : callable Try.prog 24 = true := by kernel_rfl
theorem Tcall_26 : callable Try.prog 26 = true := by kernel_rfl
theorem Tcall_28 : callable Try.prog 28 = true := by kernel_rfl
theorem Tcall_37 : callable Try.prog 37 = true := by kernel_rfl
theorem Tcall_38 : callable Try.prog 38 = true := by kernel_rfl
theorem Tsize_46 : (Try.prog.info? 46).map (·.size) = some 2 := by kernel_rfl
theorem Tzero_46 : zeroOf Try.prog 46 = some [.int .i64 0, .slice none 0 0] := by kernel_rfl
end L19T
open L19T
set_option maxHeartbeats 1000000 in
set_option maxRecDepth 20000 in
theorem law_spec {gNodes : Int} {gvEdges : Value} {gnEdges : Nat} {gxEdges : List Int} {w : World} (gwNodes : In64 gNodes) (ghEdges : Sl w gvEdges 2 gnEdges (ints gxEdges)) (gwEdges : ∀ x ∈ gxEdges, In64 x) : Calls Try.prog 7 #[.agg #[.int .i64 gNodes, gvEdges]] w (Post No w fun v _ => v = .bool true) := by
  refine enter (n := 40) (args := [.agg #[.int .i64 gNodes, gvEdges]]) Try.func7 rfl rfl (St.empty _ _) ?_
  refine Run.seq ?_
  refine Run.region ?_
  refine Run.step rfl (OpStep.box (us := [.int .i64 gNodes, gvEdges]) rfl fun b1 => ?_)
  refine Run.q (v := .bool false) rfl (OpQ.y (OpY.pure rfl)) ?_
  refine Run.done ?_
  refine Run.seq ?_
  refine Run.region ?_
  refine Run.q (v := .int .i64 1048576) rfl (OpQ.y (OpY.pure rfl)) ?_
  refine Run.done ?_
  refine Run.seq ?_
  refine Run.region ?_
  refine Run.q (v := .agg #[.int .i64 gNodes, gvEdges]) rfl (OpQ.y (OpY.loadN (cs := [.int .i64 gNodes, gvEdges]) Tagg_40 rfl (Cells.blk (.head _) ⟨rfl, rfl, trivial⟩))) ?_
  refine Run.q (v := .int .i64 1048576) rfl (OpQ.y (OpY.pure rfl)) ?_
  refine Run.q (v := .int .i64 (szN 1048576 [gnEdges])) rfl (OpQ.call (vs := [.agg #[.int .i64 gNodes, gvEdges], .int .i64 1048576]) (caps := []) Tcall_24 rfl rfl (fun w hs => szCouplingGraph_spec (hs.sl ghEdges) (by omega) (by omega))) ?_
  refine Run.q (v := .int .i64 (szN 1048576 [gnEdges])) rfl (OpQ.y (OpY.pure rfl)) ?_
  refine Run.done ?_
  refine Run.seq ?_
  refine Run.seq ?_
  refine Run.region ?_
  refine Run.q (v := .int .i64 (szN 1048576 [gnEdges])) rfl (OpQ.y (OpY.pure rfl)) ?_
  refine Run.q (v := .bool (decide ((szN 1048576 [gnEdges]) < 0))) rfl (OpQ.y (OpY.pure rfl)) ?_
  refine Run.done ?_
  refine Run.cond (b := decide ((szN 1048576 [gnEdges]) < 0)) rfl (fun h13 => ?_) (fun h13 => ?_)
  · have p13 := h13; try simp only [decide_eq_true_eq, decide_eq_false_iff_not, beq_iff_eq, bne_iff_ne, beq_eq_false_iff_ne, ne_eq, gt_iff_lt, ge_iff_le, Int.not_lt, Int.not_le, bne_eq_false_iff_eq, Bool.not_eq_true', Bool.not_eq_false', Bool.and_eq_true, Bool.and_eq_false_iff, Bool.or_eq_true, Bool.or_eq_false_iff, Decidable.not_not, List.cons.injEq, and_true] at p13
    refine Run.seq ?_
    refine Run.region ?_
    refine Run.q (v := .bool true) rfl (OpQ.y (OpY.pure rfl)) ?_
    refine Run.done ?_
    refine Run.ret ?_
    refine ⟨.bool true, [], Out.one rfl rfl, (Some'.weak (.nil _)), ?_⟩
    rfl
  · have p13 := h13; try simp only [decide_eq_true_eq, decide_eq_false_iff_not, beq_iff_eq, bne_iff_ne, beq_eq_false_iff_ne, ne_eq, gt_iff_lt, ge_iff_le, Int.not_lt, Int.not_le, bne_eq_false_iff_eq, Bool.not_eq_true', Bool.not_eq_false', Bool.and_eq_true, Bool.and_eq_false_iff, Bool.or_eq_true, Bool.or_eq_false_iff, Decidable.not_not, List.cons.injEq, and_true] at p13
    have hz13 := szN_bound (ns := [gnEdges]) (l := 1048576) p13
    have hz13gnEdges := hz13 gnEdges (by simp)
    refine Run.skip ?_
    refine Run.seq ?_
    refine Run.region ?_
    refine Run.q (v := .agg #[.int .i64 gNodes, gvEdges]) rfl (OpQ.y (OpY.loadN (cs := [.int .i64 gNodes, gvEdges]) Tagg_40 rfl (Cells.blk (.head _) ⟨rfl, rfl, trivial⟩))) ?_
    refine Run.step rfl (OpStep.call (vs := [.agg #[.int .i64 gNodes, gvEdges]]) (caps := []) Tcall_26 rfl rfl (fun w hs => toCouplingGraph_spec (hs.sl ghEdges) (by omega)) ?_)
    rintro _ _ ⟨u1, rfl, rfl⟩
    show Run _ _ (putF _ _ _ (.agg #[.int .i64 gNodes, u1])) [.own u1 180 2 gnEdges (ints gxEdges), .blk b1 40 [.int .i64 gNodes, gvEdges]]
    refine Run.q (v := .tuple #[.int .i64 (diV gNodes gxEdges gnEdges (distL gxEdges gnEdges gNodes.toNat)), .bool (diOk gNodes gxEdges gnEdges (distL gxEdges gnEdges gNodes.toNat))]) rfl (OpQ.call (vs := [.agg #[.int .i64 gNodes, u1]]) (caps := []) Tcall_37 rfl rfl (fun w hs => sDiameterOf_spec gwNodes gwEdges (hs.slOwn (.head _)))) ?_
    refine Run.q (v := .tuple #[.int .i64 (diV gNodes gxEdges gnEdges (distL gxEdges gnEdges gNodes.toNat)), .bool (diOk gNodes gxEdges gnEdges (distL gxEdges gnEdges gNodes.toNat))]) rfl (OpQ.y (OpY.pure rfl)) ?_
    refine Run.q (v := .int .i64 (diV gNodes gxEdges gnEdges (distL gxEdges gnEdges gNodes.toNat))) rfl (OpQ.y (OpY.pure rfl)) ?_
    refine Run.q (v := .bool (diOk gNodes gxEdges gnEdges (distL gxEdges gnEdges gNodes.toNat))) rfl (OpQ.y (OpY.pure rfl)) ?_
    refine Run.q (v := .int .i64 (diV gNodes gxEdges gnEdges (distL gxEdges gnEdges gNodes.toNat))) rfl (OpQ.y (OpY.pure rfl)) ?_
    refine Run.q (v := .bool (diOk gNodes gxEdges gnEdges (distL gxEdges gnEdges gNodes.toNat))) rfl (OpQ.y (OpY.pure rfl)) ?_
    refine Run.done ?_
    refine Run.seq ?_
    refine Run.region ?_
    refine Run.q (v := .agg #[.int .i64 gNodes, gvEdges]) rfl (OpQ.y (OpY.loadN (cs := [.int .i64 gNodes, gvEdges]) Tagg_40 rfl (Cells.blk (.tail _ (List.Mem.head _)) ⟨rfl, rfl, trivial⟩))) ?_
    refine Run.step rfl (OpStep.call (vs := [.agg #[.int .i64 gNodes, gvEdges]]) (caps := []) Tcall_26 rfl rfl (fun w hs => toCouplingGraph_spec (hs.sl ghEdges) (by omega)) ?_)
    rintro _ _ ⟨u2, rfl, rfl⟩
    show Run _ _ (putF _ _ _ (.agg #[.int .i64 gNodes, u2])) [.own u2 180 2 gnEdges (ints gxEdges), .own u1 180 2 gnEdges (ints gxEdges), .blk b1 40 [.int .i64 gNodes, gvEdges]]
    refine Run.step rfl (OpStep.alloc (zs := [.int .i64 0, .slice none 0 0]) Tzero_46 fun b2 => ?_)
    refine Run.formOwn (.tail _ (List.Mem.head _)) (fun A_u21 c_u21 hv hcapc_u21 hmaxc_u21 => ?_) (fun _ _ _ => ⟨nofun, nofun, nofun⟩)
    subst hv
    refine Run.step rfl (OpStep.storeAll (us := [.int .i64 gNodes, .slice A_u21 gnEdges c_u21]) Tsize_46 rfl rfl rfl (.here _) rfl ?_)
    refine Run.done ?_
    refine Run.seq ?_
    refine Run.region ?_
    refine Run.q (v := .agg #[.int .i64 gNodes, .slice A_u21 gnEdges c_u21]) rfl (OpQ.y (OpY.loadN (cs := [.int .i64 gNodes, .slice A_u21 gnEdges c_u21]) Tagg_46 rfl (Cells.blk (.head _) ⟨rfl, rfl, trivial⟩))) ?_
    refine Run.q (v := .tuple #[.int .i64 (diV gNodes gxEdges gnEdges (distL gxEdges gnEdges gNodes.toNat)), .bool (diOk gNodes gxEdges gnEdges (distL gxEdges gnEdges gNodes.toNat))]) rfl (OpQ.call (vs := [.agg #[.int .i64 gNodes, .slice A_u21 gnEdges c_u21]]) (caps := []) Tcall_38 rfl rfl (fun w hs => DiameterOf_spec (hs.slOwn (.tail _ (List.Mem.head _))))) ?_
    refine Run.q (v := .tuple #[.int .i64 (diV gNodes gxEdges gnEdges (distL gxEdges gnEdges gNodes.toNat)), .bool (diOk gNodes gxEdges gnEdges (distL gxEdges gnEdges gNodes.toNat))]) rfl (OpQ.y (OpY.pure rfl)) ?_
    refine Run.q (v := .int .i64 (diV gNodes gxEdges gnEdges (distL gxEdges gnEdges gNodes.toNat))) rfl (OpQ.y (OpY.pure rfl)) ?_
    refine Run.q (v := .bool (diOk gNodes gxEdges gnEdges (distL gxEdges gnEdges gNodes.toNat))) rfl (OpQ.y (OpY.pure rfl)) ?_
    refine Run.q (v := .int .i64 (diV gNodes gxEdges gnEdges (distL gxEdges gnEdges gNodes.toNat))) rfl (OpQ.y (OpY.pure rfl)) ?_
    refine Run.q (v := .bool (diOk gNodes gxEdges gnEdges (distL gxEdges gnEdges gNodes.toNat))) rfl (OpQ.y (OpY.pure rfl)) ?_
    refine Run.done ?_
    refine Run.seq ?_
    refine Run.seq ?_
    refine Run.region ?_
    refine Run.q (v := .int .i64 (diV gNodes gxEdges gnEdges (distL gxEdges gnEdges gNodes.toNat))) rfl (OpQ.y (OpY.pure rfl)) ?_
    refine Run.q (v := .int .i64 (diV gNodes gxEdges gnEdges (distL gxEdges gnEdges gNodes.toNat))) rfl (OpQ.y (OpY.pure rfl)) ?_
    refine Run.q (v := .bool false) rfl (OpQ.y (OpY.neqSame rfl rfl rfl)) ?_
    refine Run.q (v := .bool false) rfl (OpQ.y (OpY.pure rfl)) ?_
    refine Run.q (v := .bool (diOk gNodes gxEdges gnEdges (distL gxEdges gnEdges gNodes.toNat))) rfl (OpQ.y (OpY.pure rfl)) ?_
    refine Run.q (v := .bool (diOk gNodes gxEdges gnEdges (distL gxEdges gnEdges gNodes.toNat))) rfl (OpQ.y (OpY.pure rfl)) ?_
    refine Run.q (v := .bool false) rfl (OpQ.y (OpY.neqBSame Tbool_4 rfl rfl rfl)) ?_
    refine Run.q (v := .bool false) rfl (OpQ.y (OpY.pure rfl)) ?_
    refine Run.done ?_
    refine Run.cond (b := false) rfl (fun h => nomatch h) (fun _ => ?_)
    refine Run.skip ?_
    refine Run.seq ?_
    refine Run.seq ?_
    refine Run.held (by kernel_rfl) ?_
    refine DW.take (i := 0) (v := .agg #[.int .i64 gNodes, .slice A_u21 gnEdges c_u21]) rfl (by kernel_rfl) (by kernel_rfl) (by kernel_rfl) (fun _ _ _ h => h) (Weak.refl _) rfl (OpY.loadN (cs := [.int .i64 gNodes, .slice A_u21 gnEdges c_u21]) Tagg_46 rfl (Cells.blk (.head _) ⟨rfl, rfl, trivial⟩)) ?_
    refine DW.take (i := 1) (v := .agg #[.int .i64 gNodes, gvEdges]) rfl (by kernel_rfl) (by kernel_rfl) (by kernel_rfl) (fun _ _ _ h => h) (Weak.refl _) rfl (OpY.loadN (cs := [.int .i64 gNodes, gvEdges]) Tagg_40 rfl (Cells.blk (.tail _ (.tail _ (.tail _ (List.Mem.head _)))) ⟨rfl, rfl, trivial⟩)) ?_
    refine DW.step (i := 2) (by kernel_rfl) rfl rfl (OpStep.call (vs := [.agg #[.int .i64 gNodes, gvEdges]]) (caps := []) Tcall_26 rfl rfl (fun w hs => toCouplingGraph_spec (hs.sl ghEdges) (by omega)) ?_)
    rintro _ _ ⟨u3, rfl, rfl⟩
    refine ⟨(Some'.weak (.skip (.take (.take (.take (.take (.nil _))))))), ?_⟩
    refine DW.step (i := 3) (by kernel_rfl) rfl rfl (OpStep.q (v := .bool true) (OpQ.call (vs := [.agg #[.int .i64 gNodes, .slice A_u21 gnEdges c_u21], .agg #[.int .i64 gNodes, u3]]) (caps := []) Tcall_28 rfl rfl (fun w hs => eqCouplingGraph_true (hs.slOwn (.tail _ (.tail _ (List.Mem.head _)))) (hs.slOwn (.head _)))) ?_)
    refine ⟨(Some'.weak (.skip (.take (.take (.take (.take (.nil _))))))), ?_⟩
    refine DW.take (i := 4) (v := .bool false) rfl (by kernel_rfl) (by kernel_rfl) (by kernel_rfl) (fun _ _ _ h => h) (Some'.weak (.skip (.take (.take (.take (.take (.nil _))))))) rfl (OpY.pure rfl) ?_
    refine DW.done (by kernel_rfl) ?_
    refine Run.cond (b := false) rfl (fun h => nomatch h) (fun _ => ?_)
    refine Run.skip ?_
    refine Run.seq ?_
    refine Run.region ?_
    refine Run.q (v := .bool true) rfl (OpQ.y (OpY.pure rfl)) ?_
    refine Run.done ?_
    refine Run.ret ?_
    refine ⟨.bool true, [], Out.one rfl rfl, (Some'.weak (.nil _)), ?_⟩
    rfl

end Go.Proofs.Ytbpllboldphhiaa
