/- The walk of the law FnExactIsPlacement. -/
import Derived.Test.YtgoaoifnckhdlaaCg3
import Derived.Test.YtgoaoifnckhdlaaInts
import Derived.Test.YtgoaoifnckhdlaaProg
set_option linter.unusedSimpArgs false
set_option linter.unusedVariables false
namespace Go.Proofs.Ytgoaoifnckhdlaa
open Go Go.RowKit
namespace L6T
theorem Tagg_30 : aggOf Try.prog 30 = some 2 := by kernel_rfl
theorem Tagg_35 : aggOf Try.prog 35 = some 2 := by kernel_rfl
theorem Tbool_4 : Try.prog.underlying 4 = some .bool := by kernel_rfl
theorem Tcall_20 : callable Try.prog 20 = true := by kernel_rfl
theorem Tcall_22 : callable Try.prog 22 = true := by kernel_rfl
theorem Tcall_24 : callable Try.prog 24 = true := by kernel_rfl
theorem Tcall_36 : callable Try.prog 36 = true := by kernel_rfl
theorem Tcall_37 : callable Try.prog 37 = true := by kernel_rfl
theorem Tcall_38 : callable Try.prog 38 = true := by kernel_rfl
theorem Tcall_39 : callable Try.prog 39 = true := by kernel_rfl
theorem Tsize_35 : (Try.prog.info? 35).map (·.size) = some 2 := by kernel_rfl
theorem Tsl_44 : sliceOf Try.prog 44 = some (3, 1, 8, [.int .i64 0]) := by kernel_rfl
theorem Tzero_35 : zeroOf Try.prog 35 = some [.int .i64 0, .slice none 0 0] := by kernel_rfl
end L6T
open L6T
set_option maxHeartbeats 1000000 in
set_option maxRecDepth 20000 in
theorem law_spec {gNodes : Int} {gvEdges : Value} {gnEdges : Nat} {gxEdges : List Int} {q : Int} {pv : Value} {pn : Nat} {px : List Int} {w : World} (gwNodes : In64 gNodes) (ghEdges : Sl w gvEdges 2 gnEdges (ints gxEdges)) (gwEdges : ∀ x ∈ gxEdges, In64 x) (qw : In64 q) (ph : Sl w pv 1 pn (ints px)) (pw : ∀ x ∈ px, In64 x) : Calls Try.prog 8 #[.agg #[.int .i64 gNodes, gvEdges], .int .i64 q, pv] w (Post No w fun v _ => v = .bool true) := by
  obtain ⟨pA, pc, rfl, _, _⟩ := ph.form0
  refine enter (n := 60) (args := [.agg #[.int .i64 gNodes, gvEdges], .int .i64 q, .slice pA pn pc]) Try.func8 rfl rfl (St.empty _ _) ?_
  refine Run.seq ?_
  refine Run.region ?_
  refine Run.step rfl (OpStep.box (us := [.int .i64 gNodes, gvEdges]) rfl fun b1 => ?_)
  refine Run.q (v := .bool false) rfl (OpQ.y (OpY.pure rfl)) ?_
  refine Run.done ?_
  refine Run.seq ?_
  refine Run.seq ?_
  refine Run.region ?_
  refine Run.q (v := .slice pA pn pc) rfl (OpQ.y (OpY.pure rfl)) ?_
  refine Run.q (v := .int .i64 (((pn : Nat) : Int))) rfl (OpQ.y (OpY.len Tsl_44 rfl)) ?_
  refine Run.q (v := .bool (decide ((((pn : Nat) : Int)) > 1048576))) rfl (OpQ.y (OpY.pure rfl)) ?_
  refine Run.done ?_
  refine Run.cond (b := decide ((((pn : Nat) : Int)) > 1048576)) rfl (fun h16 => ?_) (fun h16 => ?_)
  · have p16 := h16; try simp only [decide_eq_true_eq, decide_eq_false_iff_not, beq_iff_eq, bne_iff_ne, beq_eq_false_iff_ne, ne_eq, gt_iff_lt, ge_iff_le, Int.not_lt, Int.not_le, bne_eq_false_iff_eq, Bool.not_eq_true', Bool.not_eq_false', Bool.and_eq_true, Bool.and_eq_false_iff, Bool.or_eq_true, Bool.or_eq_false_iff, Decidable.not_not, List.cons.injEq, and_true] at p16
    refine Run.seq ?_
    refine Run.region ?_
    refine Run.q (v := .bool true) rfl (OpQ.y (OpY.pure rfl)) ?_
    refine Run.done ?_
    refine Run.ret ?_
    refine ⟨.bool true, [], Out.one rfl rfl, (Some'.weak (.nil _)), ?_⟩
    rfl
  · have p16 := h16; try simp only [decide_eq_true_eq, decide_eq_false_iff_not, beq_iff_eq, bne_iff_ne, beq_eq_false_iff_ne, ne_eq, gt_iff_lt, ge_iff_le, Int.not_lt, Int.not_le, bne_eq_false_iff_eq, Bool.not_eq_true', Bool.not_eq_false', Bool.and_eq_true, Bool.and_eq_false_iff, Bool.or_eq_true, Bool.or_eq_false_iff, Decidable.not_not, List.cons.injEq, and_true] at p16
    refine Run.skip ?_
    refine Run.seq ?_
    refine Run.region ?_
    refine Run.q (v := .int .i64 1048576) rfl (OpQ.y (OpY.pure rfl)) ?_
    refine Run.done ?_
    refine Run.seq ?_
    refine Run.region ?_
    refine Run.q (v := .agg #[.int .i64 gNodes, gvEdges]) rfl (OpQ.y (OpY.loadN (cs := [.int .i64 gNodes, gvEdges]) Tagg_30 rfl (Cells.blk (.head _) ⟨rfl, rfl, trivial⟩))) ?_
    refine Run.q (v := .int .i64 1048576) rfl (OpQ.y (OpY.pure rfl)) ?_
    refine Run.q (v := .int .i64 (szN 1048576 [gnEdges])) rfl (OpQ.call (vs := [.agg #[.int .i64 gNodes, gvEdges], .int .i64 1048576]) (caps := []) Tcall_20 rfl rfl (fun w hs => szCouplingGraph_spec (hs.sl ghEdges) (by omega) (by omega))) ?_
    refine Run.q (v := .int .i64 (szN 1048576 [gnEdges])) rfl (OpQ.y (OpY.pure rfl)) ?_
    refine Run.done ?_
    refine Run.seq ?_
    refine Run.seq ?_
    refine Run.region ?_
    refine Run.q (v := .int .i64 (szN 1048576 [gnEdges])) rfl (OpQ.y (OpY.pure rfl)) ?_
    refine Run.q (v := .bool (decide ((szN 1048576 [gnEdges]) < 0))) rfl (OpQ.y (OpY.pure rfl)) ?_
    refine Run.done ?_
    refine Run.cond (b := decide ((szN 1048576 [gnEdges]) < 0)) rfl (fun h21 => ?_) (fun h21 => ?_)
    · have p21 := h21; try simp only [decide_eq_true_eq, decide_eq_false_iff_not, beq_iff_eq, bne_iff_ne, beq_eq_false_iff_ne, ne_eq, gt_iff_lt, ge_iff_le, Int.not_lt, Int.not_le, bne_eq_false_iff_eq, Bool.not_eq_true', Bool.not_eq_false', Bool.and_eq_true, Bool.and_eq_false_iff, Bool.or_eq_true, Bool.or_eq_false_iff, Decidable.not_not, List.cons.injEq, and_true] at p21
      refine Run.seq ?_
      refine Run.region ?_
      refine Run.q (v := .bool true) rfl (OpQ.y (OpY.pure rfl)) ?_
      refine Run.done ?_
      refine Run.ret ?_
      refine ⟨.bool true, [], Out.one rfl rfl, (Some'.weak (.nil _)), ?_⟩
      rfl
    · have p21 := h21; try simp only [decide_eq_true_eq, decide_eq_false_iff_not, beq_iff_eq, bne_iff_ne, beq_eq_false_iff_ne, ne_eq, gt_iff_lt, ge_iff_le, Int.not_lt, Int.not_le, bne_eq_false_iff_eq, Bool.not_eq_true', Bool.not_eq_false', Bool.and_eq_true, Bool.and_eq_false_iff, Bool.or_eq_true, Bool.or_eq_false_iff, Decidable.not_not, List.cons.injEq, and_true] at p21
      have hz21 := szN_bound (ns := [gnEdges]) (l := 1048576) p21
      have hz21gnEdges := hz21 gnEdges (by simp)
      refine Run.skip ?_
      refine Run.seq ?_
      refine Run.region ?_
      refine Run.q (v := .agg #[.int .i64 gNodes, gvEdges]) rfl (OpQ.y (OpY.loadN (cs := [.int .i64 gNodes, gvEdges]) Tagg_30 rfl (Cells.blk (.head _) ⟨rfl, rfl, trivial⟩))) ?_
      refine Run.step rfl (OpStep.call (vs := [.agg #[.int .i64 gNodes, gvEdges]]) (caps := []) Tcall_22 rfl rfl (fun w hs => toCouplingGraph_spec (hs.sl ghEdges) (by omega)) ?_)
      rintro _ _ ⟨u1, rfl, rfl⟩
      show Run _ _ (putF _ _ _ (.agg #[.int .i64 gNodes, u1])) [.own u1 100 2 gnEdges (ints gxEdges), .blk b1 30 [.int .i64 gNodes, gvEdges]]
      refine Run.q (v := .int .i64 q) rfl (OpQ.y (OpY.pure rfl)) ?_
      refine Run.q (v := .slice pA pn pc) rfl (OpQ.y (OpY.pure rfl)) ?_
      refine Run.step rfl (OpStep.call (vs := [.slice pA pn pc]) (caps := []) Tcall_37 rfl rfl (fun w hs => toIntS_spec (hs.sl ph) (by omega)) ?_)
      rintro u2 _ rfl
      show Run _ _ (putF _ _ _ u2) [.own u2 3 1 pn (ints px), .own u1 100 2 gnEdges (ints gxEdges), .blk b1 30 [.int .i64 gNodes, gvEdges]]
      refine Run.q (v := .tuple #[.bool (cgOk gNodes gxEdges gnEdges && within q 1 5 && (placeOk gNodes px pn && decide ((pn : Int) = q))), .bool (cgOk gNodes gxEdges gnEdges && within q 1 5)]) rfl (OpQ.call (vs := [.agg #[.int .i64 gNodes, u1], .int .i64 q, u2]) (caps := []) Tcall_36 rfl rfl (fun w hs => sIsPlacement_spec gwNodes gwEdges (hs.slOwn (.tail _ (List.Mem.head _))) (hs.slOwn (.head _)))) ?_
      refine Run.q (v := .tuple #[.bool (cgOk gNodes gxEdges gnEdges && within q 1 5 && (placeOk gNodes px pn && decide ((pn : Int) = q))), .bool (cgOk gNodes gxEdges gnEdges && within q 1 5)]) rfl (OpQ.y (OpY.pure rfl)) ?_
      refine Run.q (v := .bool (cgOk gNodes gxEdges gnEdges && within q 1 5 && (placeOk gNodes px pn && decide ((pn : Int) = q)))) rfl (OpQ.y (OpY.pure rfl)) ?_
      refine Run.q (v := .bool (cgOk gNodes gxEdges gnEdges && within q 1 5)) rfl (OpQ.y (OpY.pure rfl)) ?_
      refine Run.q (v := .bool (cgOk gNodes gxEdges gnEdges && within q 1 5 && (placeOk gNodes px pn && decide ((pn : Int) = q)))) rfl (OpQ.y (OpY.pure rfl)) ?_
      refine Run.q (v := .bool (cgOk gNodes gxEdges gnEdges && within q 1 5)) rfl (OpQ.y (OpY.pure rfl)) ?_
      refine Run.done ?_
      refine Run.seq ?_
      refine Run.region ?_
      refine Run.q (v := .agg #[.int .i64 gNodes, gvEdges]) rfl (OpQ.y (OpY.loadN (cs := [.int .i64 gNodes, gvEdges]) Tagg_30 rfl (Cells.blk (.tail _ (.tail _ (List.Mem.head _))) ⟨rfl, rfl, trivial⟩))) ?_
      refine Run.step rfl (OpStep.call (vs := [.agg #[.int .i64 gNodes, gvEdges]]) (caps := []) Tcall_22 rfl rfl (fun w hs => toCouplingGraph_spec (hs.sl ghEdges) (by omega)) ?_)
      rintro _ _ ⟨u3, rfl, rfl⟩
      show Run _ _ (putF _ _ _ (.agg #[.int .i64 gNodes, u3])) [.own u3 100 2 gnEdges (ints gxEdges), .own u2 3 1 pn (ints px), .own u1 100 2 gnEdges (ints gxEdges), .blk b1 30 [.int .i64 gNodes, gvEdges]]
      refine Run.step rfl (OpStep.alloc (zs := [.int .i64 0, .slice none 0 0]) Tzero_35 fun b2 => ?_)
      refine Run.formOwn (.tail _ (List.Mem.head _)) (fun A_u31 c_u31 hv hcapc_u31 hmaxc_u31 => ?_) (fun _ _ _ => ⟨nofun, nofun, nofun⟩)
      subst hv
      refine Run.step rfl (OpStep.storeAll (us := [.int .i64 gNodes, .slice A_u31 gnEdges c_u31]) Tsize_35 rfl rfl rfl (.here _) rfl ?_)
      refine Run.done ?_
      refine Run.seq ?_
      refine Run.region ?_
      refine Run.q (v := .slice pA pn pc) rfl (OpQ.y (OpY.pure rfl)) ?_
      refine Run.step rfl (OpStep.call (vs := [.slice pA pn pc]) (caps := []) Tcall_37 rfl rfl (fun w hs => toIntS_spec (hs.sl ph) (by omega)) ?_)
      rintro u4 _ rfl
      show Run _ _ (putF _ _ _ u4) [.own u4 3 1 pn (ints px), .blk b2 35 [.int .i64 gNodes, .slice A_u31 gnEdges c_u31], .own (.slice A_u31 gnEdges c_u31) 100 2 gnEdges (ints gxEdges), .own u2 3 1 pn (ints px), .own u1 100 2 gnEdges (ints gxEdges), .blk b1 30 [.int .i64 gNodes, gvEdges]]
      refine Run.q (v := u4) rfl (OpQ.y (OpY.pure rfl)) ?_
      refine Run.done ?_
      refine Run.seq ?_
      refine Run.region ?_
      refine Run.q (v := .agg #[.int .i64 gNodes, .slice A_u31 gnEdges c_u31]) rfl (OpQ.y (OpY.loadN (cs := [.int .i64 gNodes, .slice A_u31 gnEdges c_u31]) Tagg_35 rfl (Cells.blk (.tail _ (List.Mem.head _)) ⟨rfl, rfl, trivial⟩))) ?_
      refine Run.q (v := .int .i64 q) rfl (OpQ.y (OpY.pure rfl)) ?_
      refine Run.q (v := u4) rfl (OpQ.y (OpY.pure rfl)) ?_
      refine Run.q (v := .tuple #[.bool (cgOk gNodes gxEdges gnEdges && within q 1 5 && (placeOk gNodes px pn && decide ((pn : Int) = q))), .bool (cgOk gNodes gxEdges gnEdges && within q 1 5)]) rfl (OpQ.call (vs := [.agg #[.int .i64 gNodes, .slice A_u31 gnEdges c_u31], .int .i64 q, u4]) (caps := []) Tcall_38 rfl rfl (fun w hs => IsPlacement_spec (hs.slOwn (.tail _ (.tail _ (List.Mem.head _)))) (hs.slOwn (.head _)))) ?_
      refine Run.q (v := .tuple #[.bool (cgOk gNodes gxEdges gnEdges && within q 1 5 && (placeOk gNodes px pn && decide ((pn : Int) = q))), .bool (cgOk gNodes gxEdges gnEdges && within q 1 5)]) rfl (OpQ.y (OpY.pure rfl)) ?_
      refine Run.q (v := .bool (cgOk gNodes gxEdges gnEdges && within q 1 5 && (placeOk gNodes px pn && decide ((pn : Int) = q)))) rfl (OpQ.y (OpY.pure rfl)) ?_
      refine Run.q (v := .bool (cgOk gNodes gxEdges gnEdges && within q 1 5)) rfl (OpQ.y (OpY.pure rfl)) ?_
      refine Run.q (v := .bool (cgOk gNodes gxEdges gnEdges && within q 1 5 && (placeOk gNodes px pn && decide ((pn : Int) = q)))) rfl (OpQ.y (OpY.pure rfl)) ?_
      refine Run.q (v := .bool (cgOk gNodes gxEdges gnEdges && within q 1 5)) rfl (OpQ.y (OpY.pure rfl)) ?_
      refine Run.done ?_
      refine Run.seq ?_
      refine Run.seq ?_
      refine Run.region ?_
      refine Run.q (v := .bool (cgOk gNodes gxEdges gnEdges && within q 1 5 && (placeOk gNodes px pn && decide ((pn : Int) = q)))) rfl (OpQ.y (OpY.pure rfl)) ?_
      refine Run.q (v := .bool (cgOk gNodes gxEdges gnEdges && within q 1 5 && (placeOk gNodes px pn && decide ((pn : Int) = q)))) rfl (OpQ.y (OpY.pure rfl)) ?_
      refine Run.q (v := .bool false) rfl (OpQ.y (OpY.neqBSame Tbool_4 rfl rfl rfl)) ?_
      refine Run.q (v := .bool false) rfl (OpQ.y (OpY.pure rfl)) ?_
      refine Run.q (v := .bool (cgOk gNodes gxEdges gnEdges && within q 1 5)) rfl (OpQ.y (OpY.pure rfl)) ?_
      refine Run.q (v := .bool (cgOk gNodes gxEdges gnEdges && within q 1 5)) rfl (OpQ.y (OpY.pure rfl)) ?_
      refine Run.q (v := .bool false) rfl (OpQ.y (OpY.neqBSame Tbool_4 rfl rfl rfl)) ?_
      refine Run.q (v := .bool false) rfl (OpQ.y (OpY.pure rfl)) ?_
      refine Run.done ?_
      refine Run.cond (b := false) rfl (fun h => nomatch h) (fun _ => ?_)
      refine Run.skip ?_
      refine Run.seq ?_
      refine Run.seq ?_
      refine Run.held (by kernel_rfl) ?_
      refine DW.take (i := 0) (v := .agg #[.int .i64 gNodes, .slice A_u31 gnEdges c_u31]) rfl (by kernel_rfl) (by kernel_rfl) (by kernel_rfl) (fun _ _ _ h => h) (Weak.refl _) rfl (OpY.loadN (cs := [.int .i64 gNodes, .slice A_u31 gnEdges c_u31]) Tagg_35 rfl (Cells.blk (.tail _ (List.Mem.head _)) ⟨rfl, rfl, trivial⟩)) ?_
      refine DW.take (i := 1) (v := .agg #[.int .i64 gNodes, gvEdges]) rfl (by kernel_rfl) (by kernel_rfl) (by kernel_rfl) (fun _ _ _ h => h) (Weak.refl _) rfl (OpY.loadN (cs := [.int .i64 gNodes, gvEdges]) Tagg_30 rfl (Cells.blk (.tail _ (.tail _ (.tail _ (.tail _ (.tail _ (List.Mem.head _)))))) ⟨rfl, rfl, trivial⟩)) ?_
      refine DW.step (i := 2) (by kernel_rfl) rfl rfl (OpStep.call (vs := [.agg #[.int .i64 gNodes, gvEdges]]) (caps := []) Tcall_22 rfl rfl (fun w hs => toCouplingGraph_spec (hs.sl ghEdges) (by omega)) ?_)
      rintro _ _ ⟨u5, rfl, rfl⟩
      refine ⟨(Some'.weak (.skip (.take (.take (.take (.take (.take (.take (.nil _))))))))), ?_⟩
      refine DW.step (i := 3) (by kernel_rfl) rfl rfl (OpStep.q (v := .bool true) (OpQ.call (vs := [.agg #[.int .i64 gNodes, .slice A_u31 gnEdges c_u31], .agg #[.int .i64 gNodes, u5]]) (caps := []) Tcall_24 rfl rfl (fun w hs => eqCouplingGraph_true (hs.slOwn (.tail _ (.tail _ (.tail _ (List.Mem.head _))))) (hs.slOwn (.head _)))) ?_)
      refine ⟨(Some'.weak (.skip (.take (.take (.take (.take (.take (.take (.nil _))))))))), ?_⟩
      refine DW.take (i := 4) (v := .bool false) rfl (by kernel_rfl) (by kernel_rfl) (by kernel_rfl) (fun _ _ _ h => h) (Some'.weak (.skip (.take (.take (.take (.take (.take (.take (.nil _))))))))) rfl (OpY.pure rfl) ?_
      refine DW.done (by kernel_rfl) ?_
      refine Run.cond (b := false) rfl (fun h => nomatch h) (fun _ => ?_)
      refine Run.skip ?_
      refine Run.seq ?_
      refine Run.seq ?_
      refine Run.region ?_
      refine Run.q (v := u4) rfl (OpQ.y (OpY.pure rfl)) ?_
      refine Run.q (v := .slice pA pn pc) rfl (OpQ.y (OpY.pure rfl)) ?_
      refine Run.step rfl (OpStep.call (vs := [.slice pA pn pc]) (caps := []) Tcall_37 rfl rfl (fun w hs => toIntS_spec (hs.sl ph) (by omega)) ?_)
      rintro u6 _ rfl
      show Run _ _ (putF _ _ _ u6) [.own u6 3 1 pn (ints px), .own u5 100 2 gnEdges (ints gxEdges), .own u4 3 1 pn (ints px), .blk b2 35 [.int .i64 gNodes, .slice A_u31 gnEdges c_u31], .own (.slice A_u31 gnEdges c_u31) 100 2 gnEdges (ints gxEdges), .own u2 3 1 pn (ints px), .own u1 100 2 gnEdges (ints gxEdges), .blk b1 30 [.int .i64 gNodes, gvEdges]]
      refine Run.q (v := .bool true) rfl (OpQ.call (vs := [u4, u6]) (caps := []) Tcall_39 rfl rfl (fun w hs => eqIntS_true (hs.slOwn (.tail _ (.tail _ (List.Mem.head _)))) (hs.slOwn (.head _)) rfl)) ?_
      refine Run.q (v := .bool false) rfl (OpQ.y (OpY.pure rfl)) ?_
      refine Run.done ?_
      refine Run.cond (b := false) rfl (fun h => nomatch h) (fun _ => ?_)
      refine Run.skip ?_
      refine Run.seq ?_
      refine Run.region ?_
      refine Run.q (v := .bool true) rfl (OpQ.y (OpY.pure rfl)) ?_
      refine Run.done ?_
      refine Run.ret ?_
      refine ⟨.bool true, [], Out.one rfl rfl, (Some'.weak (.nil _)), ?_⟩
      rfl

end Go.Proofs.Ytgoaoifnckhdlaa
