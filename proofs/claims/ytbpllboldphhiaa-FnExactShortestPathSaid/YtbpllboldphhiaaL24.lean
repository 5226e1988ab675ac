/- The walk of the law FnExactShortestPath. -/
import Derived.Test.YtbpllboldphhiaaSp
import Derived.Test.YtbpllboldphhiaaInts
import Derived.Test.YtbpllboldphhiaaProg
set_option linter.unusedSimpArgs false
set_option linter.unusedVariables false
namespace Go.Proofs.Ytbpllboldphhiaa
open Go Go.RowKit
namespace L24T
theorem Tagg_40 : aggOf Try.prog 40 = some 2 := by kernel_rfl
theorem Tagg_46 : aggOf Try.prog 46 = some 2 := by kernel_rfl
theorem Tbool_4 : Try.prog.underlying 4 = some .bool := by kernel_rfl
theorem Tcall_19 : callable Try.prog 19 = true := by kernel_rfl
theorem Tcall_22 : callable Try.prog 22 = true := by kernel_rfl
theorem Tcall_23 : callable Try.prog 23 = true := by kernel_rfl
theorem Tcall_24 : callable Try.prog 24 = true := by kernel_rfl
theorem Tcall_26 : callable Try.prog 26 = true := by kernel_rfl
theorem Tcall_28 : callable Try.prog 28 = true := by kernel_rfl
theorem Tcall_36 : callable Try.prog 36 = true := by kernel_rfl
theorem Tcall_54 : callable Try.prog 54 = true := by kernel_rfl
theorem Tcall_55 : callable Try.prog 55 = true := by kernel_rfl
theorem Tsize_46 : (Try.prog.info? 46).map (·.size) = some 2 := by kernel_rfl
theorem Tzero_46 : zeroOf Try.prog 46 = some [.int .i64 0, .slice none 0 0] := by kernel_rfl
end L24T
open L24T
set_option maxHeartbeats 1000000 in
set_option maxRecDepth 20000 in
theorem law_spec {gNodes : Int} {gvEdges : Value} {gnEdges : Nat} {gxEdges : List Int} {p : Int} {q : Int} {w : World} (gwNodes : In64 gNodes) (ghEdges : Sl w gvEdges 2 gnEdges (ints gxEdges)) (gwEdges : ∀ x ∈ gxEdges, In64 x) (pw : In64 p) (qw : In64 q) : Calls Try.prog 11 #[.agg #[.int .i64 gNodes, gvEdges], .int .i64 p, .int .i64 q] w (Post No w fun v _ => v = .bool true) := by
  refine enter (n := 106) (args := [.agg #[.int .i64 gNodes, gvEdges], .int .i64 p, .int .i64 q]) Try.func11 rfl rfl (St.empty _ _) ?_
  refine Run.seq ?_
  refine Run.region ?_
  refine Run.step rfl (OpStep.box (us := [.int .i64 gNodes, gvEdges]) rfl fun b1 => ?_)
  refine Run.q (v := .bool false) rfl (OpQ.y (OpY.pure rfl)) ?_
  refine Run.done ?_
  refine Run.seq ?_
  refine Run.region ?_
  refine Run.q (v := .int .i64 1048576) rfl (OpQ.y (OpY.pure rfl)) ?_
  refine Run.done ?_
  refine Run.seq ?_
  refine Run.region ?_
  refine Run.q (v := .agg #[.int .i64 gNodes, gvEdges]) rfl (OpQ.y (OpY.loadN (cs := [.int .i64 gNodes, gvEdges]) Tagg_40 rfl (Cells.blk (.head _) ⟨rfl, rfl, trivial⟩))) ?_
  refine Run.q (v := .int .i64 1048576) rfl (OpQ.y (OpY.pure rfl)) ?_
  refine Run.q (v := .int .i64 (szN 1048576 [gnEdges])) rfl (OpQ.call (vs := [.agg #[.int .i64 gNodes, gvEdges], .int .i64 1048576]) (caps := []) Tcall_24 rfl rfl (fun w hs => szCouplingGraph_spec (hs.sl ghEdges) (by omega) (by omega))) ?_
  refine Run.q (v := .int .i64 (szN 1048576 [gnEdges])) rfl (OpQ.y (OpY.pure rfl)) ?_
  refine Run.done ?_
  refine Run.seq ?_
  refine Run.seq ?_
  refine Run.region ?_
  refine Run.q (v := .int .i64 (szN 1048576 [gnEdges])) rfl (OpQ.y (OpY.pure rfl)) ?_
  refine Run.q (v := .bool (decide ((szN 1048576 [gnEdges]) < 0))) rfl (OpQ.y (OpY.pure rfl)) ?_
  refine Run.done ?_
  refine Run.cond (b := decide ((szN 1048576 [gnEdges]) < 0)) rfl (fun h22 => ?_) (fun h22 => ?_)
  · have p22 := h22; try simp only [decide_eq_true_eq, decide_eq_false_iff_not, beq_iff_eq, bne_iff_ne, beq_eq_false_iff_ne, ne_eq, gt_iff_lt, ge_iff_le, Int.not_lt, Int.not_le, bne_eq_false_iff_eq, Bool.not_eq_true', Bool.not_eq_false', Bool.and_eq_true, Bool.and_eq_false_iff, Bool.or_eq_true, Bool.or_eq_false_iff, Decidable.not_not, List.cons.injEq, and_true] at p22
    refine Run.seq ?_
    refine Run.region ?_
    refine Run.q (v := .bool true) rfl (OpQ.y (OpY.pure rfl)) ?_
    refine Run.done ?_
    refine Run.ret ?_
    refine ⟨.bool true, [], Out.one rfl rfl, (Some'.weak (.nil _)), ?_⟩
    rfl
  · have p22 := h22; try simp only [decide_eq_true_eq, decide_eq_false_iff_not, beq_iff_eq, bne_iff_ne, beq_eq_false_iff_ne, ne_eq, gt_iff_lt, ge_iff_le, Int.not_lt, Int.not_le, bne_eq_false_iff_eq, Bool.not_eq_true', Bool.not_eq_false', Bool.and_eq_true, Bool.and_eq_false_iff, Bool.or_eq_true, Bool.or_eq_false_iff, Decidable.not_not, List.cons.injEq, and_true] at p22
    have hz22 := szN_bound (ns := [gnEdges]) (l := 1048576) p22
    have hz22gnEdges := hz22 gnEdges (by simp)
    refine Run.skip ?_
    refine Run.seq ?_
    refine Run.region ?_
    refine Run.q (v := .agg #[.int .i64 gNodes, gvEdges]) rfl (OpQ.y (OpY.loadN (cs := [.int .i64 gNodes, gvEdges]) Tagg_40 rfl (Cells.blk (.head _) ⟨rfl, rfl, trivial⟩))) ?_
    refine Run.step rfl (OpStep.call (vs := [.agg #[.int .i64 gNodes, gvEdges]]) (caps := []) Tcall_26 rfl rfl (fun w hs => toCouplingGraph_spec (hs.sl ghEdges) (by omega)) ?_)
    rintro _ _ ⟨u1, rfl, rfl⟩
    show Run _ _ (putF _ _ _ (.agg #[.int .i64 gNodes, u1])) [.own u1 180 2 gnEdges (ints gxEdges), .blk b1 40 [.int .i64 gNodes, gvEdges]]
    refine Run.q (v := .int .i64 p) rfl (OpQ.y (OpY.pure rfl)) ?_
    refine Run.q (v := .int .i64 q) rfl (OpQ.y (OpY.pure rfl)) ?_
    refine Run.step rfl (OpStep.call (vs := [.agg #[.int .i64 gNodes, u1], .int .i64 p, .int .i64 q]) (caps := []) Tcall_54 rfl rfl (fun w hs => sShortestPath_spec gwNodes gwEdges (hs.slOwn (.head _))) ?_)
    rintro _ _ ⟨u2, hlen, rfl, rfl⟩
    show Run _ _ (putF _ _ _ (.tuple #[u2, .bool (spB gNodes gxEdges gnEdges p q)])) [.own u2 3 1 ((spR gNodes gxEdges gnEdges p q).length) (ints (spR gNodes gxEdges gnEdges p q)), .own u1 180 2 gnEdges (ints gxEdges), .blk b1 40 [.int .i64 gNodes, gvEdges]]
    refine Run.q (v := .tuple #[u2, .bool (spB gNodes gxEdges gnEdges p q)]) rfl (OpQ.y (OpY.pure rfl)) ?_
    refine Run.q (v := u2) rfl (OpQ.y (OpY.pure rfl)) ?_
    refine Run.q (v := .bool (spB gNodes gxEdges gnEdges p q)) rfl (OpQ.y (OpY.pure rfl)) ?_
    refine Run.q (v := u2) rfl (OpQ.y (OpY.pure rfl)) ?_
    refine Run.q (v := .bool (spB gNodes gxEdges gnEdges p q)) rfl (OpQ.y (OpY.pure rfl)) ?_
    refine Run.done ?_
    refine Run.seq ?_
    refine Run.region ?_
    refine Run.q (v := .agg #[.int .i64 gNodes, gvEdges]) rfl (OpQ.y (OpY.loadN (cs := [.int .i64 gNodes, gvEdges]) Tagg_40 rfl (Cells.blk (.tail _ (.tail _ (List.Mem.head _))) ⟨rfl, rfl, trivial⟩))) ?_
    refine Run.step rfl (OpStep.call (vs := [.agg #[.int .i64 gNodes, gvEdges]]) (caps := []) Tcall_26 rfl rfl (fun w hs => toCouplingGraph_spec (hs.sl ghEdges) (by omega)) ?_)
    rintro _ _ ⟨u3, rfl, rfl⟩
    show Run _ _ (putF _ _ _ (.agg #[.int .i64 gNodes, u3])) [.own u3 180 2 gnEdges (ints gxEdges), .own u2 3 1 ((spR gNodes gxEdges gnEdges p q).length) (ints (spR gNodes gxEdges gnEdges p q)), .own u1 180 2 gnEdges (ints gxEdges), .blk b1 40 [.int .i64 gNodes, gvEdges]]
    refine Run.step rfl (OpStep.alloc (zs := [.int .i64 0, .slice none 0 0]) Tzero_46 fun b2 => ?_)
    refine Run.formOwn (.tail _ (List.Mem.head _)) (fun A_u31 c_u31 hv hcapc_u31 hmaxc_u31 => ?_) (fun _ _ _ => ⟨nofun, nofun, nofun⟩)
    subst hv
    refine Run.step rfl (OpStep.storeAll (us := [.int .i64 gNodes, .slice A_u31 gnEdges c_u31]) Tsize_46 rfl rfl rfl (.here _) rfl ?_)
    refine Run.done ?_
    refine Run.seq ?_
    refine Run.region ?_
    refine Run.q (v := .agg #[.int .i64 gNodes, .slice A_u31 gnEdges c_u31]) rfl (OpQ.y (OpY.loadN (cs := [.int .i64 gNodes, .slice A_u31 gnEdges c_u31]) Tagg_46 rfl (Cells.blk (.head _) ⟨rfl, rfl, trivial⟩))) ?_
    refine Run.q (v := .int .i64 p) rfl (OpQ.y (OpY.pure rfl)) ?_
    refine Run.q (v := .int .i64 q) rfl (OpQ.y (OpY.pure rfl)) ?_
    refine Run.step rfl (OpStep.call (vs := [.agg #[.int .i64 gNodes, .slice A_u31 gnEdges c_u31], .int .i64 p, .int .i64 q]) (caps := []) Tcall_55 rfl rfl (fun w hs => ShortestPath_spec (hs.slOwn (.tail _ (List.Mem.head _)))) ?_)
    rintro _ _ ⟨u4, hlen, rfl, rfl⟩
    show Run _ _ (putF _ _ _ (.tuple #[u4, .bool (spB gNodes gxEdges gnEdges p q)])) [.own u4 3 1 ((spR gNodes gxEdges gnEdges p q).length) (ints (spR gNodes gxEdges gnEdges p q)), .blk b2 46 [.int .i64 gNodes, .slice A_u31 gnEdges c_u31], .own (.slice A_u31 gnEdges c_u31) 180 2 gnEdges (ints gxEdges), .own u2 3 1 ((spR gNodes gxEdges gnEdges p q).length) (ints (spR gNodes gxEdges gnEdges p q)), .own u1 180 2 gnEdges (ints gxEdges), .blk b1 40 [.int .i64 gNodes, gvEdges]]
    refine Run.q (v := .tuple #[u4, .bool (spB gNodes gxEdges gnEdges p q)]) rfl (OpQ.y (OpY.pure rfl)) ?_
    refine Run.q (v := u4) rfl (OpQ.y (OpY.pure rfl)) ?_
    refine Run.q (v := .bool (spB gNodes gxEdges gnEdges p q)) rfl (OpQ.y (OpY.pure rfl)) ?_
    refine Run.q (v := u4) rfl (OpQ.y (OpY.pure rfl)) ?_
    refine Run.q (v := .bool (spB gNodes gxEdges gnEdges p q)) rfl (OpQ.y (OpY.pure rfl)) ?_
    refine Run.done ?_
    refine Run.seq ?_
    refine Run.seq ?_
    refine Run.region ?_
    refine Run.q (v := u4) rfl (OpQ.y (OpY.pure rfl)) ?_
    refine Run.q (v := u2) rfl (OpQ.y (OpY.pure rfl)) ?_
    refine Run.q (v := .bool true) rfl (OpQ.call (vs := [u4, u2]) (caps := []) Tcall_19 rfl rfl (fun w hs => eqIntS_true (hs.slOwn (.head _)) (hs.slOwn (.tail _ (.tail _ (.tail _ (List.Mem.head _))))) rfl)) ?_
    refine Run.q (v := .bool false) rfl (OpQ.y (OpY.pure rfl)) ?_
    refine Run.q (v := .bool false) rfl (OpQ.y (OpY.pure rfl)) ?_
    refine Run.q (v := .bool (spB gNodes gxEdges gnEdges p q)) rfl (OpQ.y (OpY.pure rfl)) ?_
    refine Run.q (v := .bool (spB gNodes gxEdges gnEdges p q)) rfl (OpQ.y (OpY.pure rfl)) ?_
    refine Run.q (v := .bool false) rfl (OpQ.y (OpY.neqBSame Tbool_4 rfl rfl rfl)) ?_
    refine Run.q (v := .bool false) rfl (OpQ.y (OpY.pure rfl)) ?_
    refine Run.done ?_
    refine Run.cond (b := false) rfl (fun h => nomatch h) (fun _ => ?_)
    refine Run.skip ?_
    refine Run.seq ?_
    refine Run.seq ?_
    refine Run.held (by kernel_rfl) ?_
    refine DW.take (i := 0) (v := .agg #[.int .i64 gNodes, .slice A_u31 gnEdges c_u31]) rfl (by kernel_rfl) (by kernel_rfl) (by kernel_rfl) (fun _ _ _ h => h) (Weak.refl _) rfl (OpY.loadN (cs := [.int .i64 gNodes, .slice A_u31 gnEdges c_u31]) Tagg_46 rfl (Cells.blk (.tail _ (List.Mem.head _)) ⟨rfl, rfl, trivial⟩)) ?_
    refine DW.take (i := 1) (v := .agg #[.int .i64 gNodes, gvEdges]) rfl (by kernel_rfl) (by kernel_rfl) (by kernel_rfl) (fun _ _ _ h => h) (Weak.refl _) rfl (OpY.loadN (cs := [.int .i64 gNodes, gvEdges]) Tagg_40 rfl (Cells.blk (.tail _ (.tail _ (.tail _ (.tail _ (.tail _ (List.Mem.head _)))))) ⟨rfl, rfl, trivial⟩)) ?_
    refine DW.step (i := 2) (by kernel_rfl) rfl rfl (OpStep.call (vs := [.agg #[.int .i64 gNodes, gvEdges]]) (caps := []) Tcall_26 rfl rfl (fun w hs => toCouplingGraph_spec (hs.sl ghEdges) (by omega)) ?_)
    rintro _ _ ⟨u5, rfl, rfl⟩
    refine ⟨(Some'.weak (.skip (.take (.take (.take (.take (.take (.take (.nil _))))))))), ?_⟩
    refine DW.step (i := 3) (by kernel_rfl) rfl rfl (OpStep.q (v := .bool true) (OpQ.call (vs := [.agg #[.int .i64 gNodes, .slice A_u31 gnEdges c_u31], .agg #[.int .i64 gNodes, u5]]) (caps := []) Tcall_28 rfl rfl (fun w hs => eqCouplingGraph_true (hs.slOwn (.tail _ (.tail _ (.tail _ (List.Mem.head _))))) (hs.slOwn (.head _)))) ?_)
    refine ⟨(Some'.weak (.skip (.take (.take (.take (.take (.take (.take (.nil _))))))))), ?_⟩
    refine DW.take (i := 4) (v := .bool false) rfl (by kernel_rfl) (by kernel_rfl) (by kernel_rfl) (fun _ _ _ h => h) (Some'.weak (.skip (.take (.take (.take (.take (.take (.take (.nil _))))))))) rfl (OpY.pure rfl) ?_
    refine DW.done (by kernel_rfl) ?_
    refine Run.cond (b := false) rfl (fun h => nomatch h) (fun _ => ?_)
    refine Run.skip ?_
    refine Run.seq ?_
    refine Run.region ?_
    refine Run.q (v := .int .i64 1) rfl (OpQ.y (OpY.pure rfl)) ?_
    refine Run.done ?_
    refine Run.seq ?_
    refine Run.region ?_
    refine Run.q (v := .agg #[.int .i64 gNodes, .slice A_u31 gnEdges c_u31]) rfl (OpQ.y (OpY.loadN (cs := [.int .i64 gNodes, .slice A_u31 gnEdges c_u31]) Tagg_46 rfl (Cells.blk (.tail _ (.tail _ (List.Mem.head _))) ⟨rfl, rfl, trivial⟩))) ?_
    refine Run.q (v := .int .i64 1) rfl (OpQ.y (OpY.pure rfl)) ?_
    refine Run.step rfl (OpStep.callM (H1 := [.own (.slice A_u31 gnEdges c_u31) 180 2 gnEdges (ints gxEdges)]) (H2 := [.own u5 180 2 gnEdges (ints gxEdges), .own u4 3 1 ((spR gNodes gxEdges gnEdges p q).length) (ints (spR gNodes gxEdges gnEdges p q)), .blk b2 46 [.int .i64 gNodes, .slice A_u31 gnEdges c_u31], .own u2 3 1 ((spR gNodes gxEdges gnEdges p q).length) (ints (spR gNodes gxEdges gnEdges p q)), .own u1 180 2 gnEdges (ints gxEdges), .blk b1 40 [.int .i64 gNodes, gvEdges]]) (vs := [.agg #[.int .i64 gNodes, .slice A_u31 gnEdges c_u31], .int .i64 1]) (caps := []) Tcall_36 rfl rfl (Weak.front [.own u5 180 2 gnEdges (ints gxEdges), .own u4 3 1 ((spR gNodes gxEdges gnEdges p q).length) (ints (spR gNodes gxEdges gnEdges p q)), .blk b2 46 [.int .i64 gNodes, .slice A_u31 gnEdges c_u31]] (.own (.slice A_u31 gnEdges c_u31) 180 2 gnEdges (ints gxEdges)) [.own u2 3 1 ((spR gNodes gxEdges gnEdges p q).length) (ints (spR gNodes gxEdges gnEdges p q)), .own u1 180 2 gnEdges (ints gxEdges), .blk b1 40 [.int .i64 gNodes, gvEdges]]) (fun w hs => markCouplingGraph_spec (hs.sub (List.sublist_append_left _ _)).self (by omega) (by omega)) ?_)
    rintro _ _ ⟨rfl, rfl⟩
    show Run _ _ (putF _ _ _ (.int .i64 (1 + ((gnEdges : Nat) : Int) * 2))) [.own (.slice A_u31 gnEdges c_u31) 180 2 gnEdges (ints (mks 1 (gnEdges * 2))), .own u5 180 2 gnEdges (ints gxEdges), .own u4 3 1 ((spR gNodes gxEdges gnEdges p q).length) (ints (spR gNodes gxEdges gnEdges p q)), .blk b2 46 [.int .i64 gNodes, .slice A_u31 gnEdges c_u31], .own u2 3 1 ((spR gNodes gxEdges gnEdges p q).length) (ints (spR gNodes gxEdges gnEdges p q)), .own u1 180 2 gnEdges (ints gxEdges), .blk b1 40 [.int .i64 gNodes, gvEdges]]
    refine Run.q (v := .int .i64 (1 + ((gnEdges : Nat) : Int) * 2)) rfl (OpQ.y (OpY.pure rfl)) ?_
    refine Run.done ?_
    refine Run.seq ?_
    refine Run.seq ?_
    refine Run.region ?_
    refine Run.q (v := .int .i64 (1 + ((gnEdges : Nat) : Int) * 2)) rfl (OpQ.y (OpY.pure rfl)) ?_
    refine Run.q (v := .bool (decide ((1 + ((gnEdges : Nat) : Int) * 2) < 0))) rfl (OpQ.y (OpY.pure rfl)) ?_
    rcases Bool.eq_false_or_eq_true (decide ((1 + ((gnEdges : Nat) : Int) * 2) < 0)) with h59 | h59
    · exact absurd h59 (by simp <;> omega) --DONE
    · refine Run.q (v := .bool false) rfl (OpQ.y (OpY.moveB rfl h59)) ?_
      have p59 := h59; try simp only [decide_eq_true_eq, decide_eq_false_iff_not, beq_iff_eq, bne_iff_ne, beq_eq_false_iff_ne, ne_eq, gt_iff_lt, ge_iff_le, Int.not_lt, Int.not_le, bne_eq_false_iff_eq, Bool.not_eq_true', Bool.not_eq_false', Bool.and_eq_true, Bool.and_eq_false_iff, Bool.or_eq_true, Bool.or_eq_false_iff, Decidable.not_not, List.cons.injEq, and_true] at p59
      refine Run.q (v := u4) rfl (OpQ.y (OpY.pure rfl)) ?_
      refine Run.q (v := u2) rfl (OpQ.y (OpY.pure rfl)) ?_
      refine Run.q (v := .bool true) rfl (OpQ.call (vs := [u4, u2]) (caps := []) Tcall_19 rfl rfl (fun w hs => eqIntS_true (hs.slOwn (.tail _ (.tail _ (List.Mem.head _)))) (hs.slOwn (.tail _ (.tail _ (.tail _ (.tail _ (List.Mem.head _)))))) rfl)) ?_
      refine Run.q (v := .bool false) rfl (OpQ.y (OpY.pure rfl)) ?_
      refine Run.q (v := .bool false) rfl (OpQ.y (OpY.pure rfl)) ?_
      refine Run.q (v := .bool false) rfl (OpQ.y (OpY.pure rfl)) ?_
      refine Run.q (v := .bool (spB gNodes gxEdges gnEdges p q)) rfl (OpQ.y (OpY.pure rfl)) ?_
      refine Run.q (v := .bool (spB gNodes gxEdges gnEdges p q)) rfl (OpQ.y (OpY.pure rfl)) ?_
      refine Run.q (v := .bool false) rfl (OpQ.y (OpY.neqBSame Tbool_4 rfl rfl rfl)) ?_
      refine Run.q (v := .bool false) rfl (OpQ.y (OpY.pure rfl)) ?_
      refine Run.done ?_
      refine Run.cond (b := false) rfl (fun h => nomatch h) (fun _ => ?_)
      refine Run.skip ?_
      refine Run.seq ?_
      refine Run.region ?_
      refine Run.q (v := .int .i64 1) rfl (OpQ.y (OpY.pure rfl)) ?_
      refine Run.done ?_
      refine Run.seq ?_
      refine Run.region ?_
      refine Run.q (v := u4) rfl (OpQ.y (OpY.pure rfl)) ?_
      refine Run.q (v := .int .i64 1) rfl (OpQ.y (OpY.pure rfl)) ?_
      refine Run.step rfl (OpStep.callM (H1 := [.own u4 3 1 ((spR gNodes gxEdges gnEdges p q).length) (ints (spR gNodes gxEdges gnEdges p q))]) (H2 := [.own (.slice A_u31 gnEdges c_u31) 180 2 gnEdges (ints (mks 1 (gnEdges * 2))), .own u5 180 2 gnEdges (ints gxEdges), .blk b2 46 [.int .i64 gNodes, .slice A_u31 gnEdges c_u31], .own u2 3 1 ((spR gNodes gxEdges gnEdges p q).length) (ints (spR gNodes gxEdges gnEdges p q)), .own u1 180 2 gnEdges (ints gxEdges), .blk b1 40 [.int .i64 gNodes, gvEdges]]) (vs := [u4, .int .i64 1]) (caps := []) Tcall_22 rfl rfl (Weak.front [.own (.slice A_u31 gnEdges c_u31) 180 2 gnEdges (ints (mks 1 (gnEdges * 2))), .own u5 180 2 gnEdges (ints gxEdges)] (.own u4 3 1 ((spR gNodes gxEdges gnEdges p q).length) (ints (spR gNodes gxEdges gnEdges p q))) [.blk b2 46 [.int .i64 gNodes, .slice A_u31 gnEdges c_u31], .own u2 3 1 ((spR gNodes gxEdges gnEdges p q).length) (ints (spR gNodes gxEdges gnEdges p q)), .own u1 180 2 gnEdges (ints gxEdges), .blk b1 40 [.int .i64 gNodes, gvEdges]]) (fun w hs => markIntS_spec (hs.holds _ (.head _)) (by omega) (by omega)) ?_)
      rintro _ _ ⟨rfl, rfl⟩
      show Run _ _ (putF _ _ _ (.int .i64 (1 + (((spR gNodes gxEdges gnEdges p q).length : Nat) : Int) * 1))) [.own u4 3 1 ((spR gNodes gxEdges gnEdges p q).length) (ints (mks 1 (((spR gNodes gxEdges gnEdges p q).length) * 1))), .own (.slice A_u31 gnEdges c_u31) 180 2 gnEdges (ints (mks 1 (gnEdges * 2))), .own u5 180 2 gnEdges (ints gxEdges), .blk b2 46 [.int .i64 gNodes, .slice A_u31 gnEdges c_u31], .own u2 3 1 ((spR gNodes gxEdges gnEdges p q).length) (ints (spR gNodes gxEdges gnEdges p q)), .own u1 180 2 gnEdges (ints gxEdges), .blk b1 40 [.int .i64 gNodes, gvEdges]]
      refine Run.q (v := .int .i64 (1 + (((spR gNodes gxEdges gnEdges p q).length : Nat) : Int) * 1)) rfl (OpQ.y (OpY.pure rfl)) ?_
      refine Run.done ?_
      refine Run.seq ?_
      refine Run.region ?_
      refine Run.q (v := .int .i64 1) rfl (OpQ.y (OpY.pure rfl)) ?_
      refine Run.done ?_
      refine Run.seq ?_
      refine Run.region ?_
      refine Run.q (v := u4) rfl (OpQ.y (OpY.pure rfl)) ?_
      refine Run.q (v := .int .i64 1) rfl (OpQ.y (OpY.pure rfl)) ?_
      refine Run.q (v := .int .i64 (1 + (((spR gNodes gxEdges gnEdges p q).length : Nat) : Int) * 1)) rfl (OpQ.call (vs := [u4, .int .i64 1]) (caps := []) Tcall_23 rfl rfl (fun w hs => heldIntS_true (hs.slOwn (.head _)) (by omega) (by omega) rfl)) ?_
      refine Run.q (v := .int .i64 (1 + (((spR gNodes gxEdges gnEdges p q).length : Nat) : Int) * 1)) rfl (OpQ.y (OpY.pure rfl)) ?_
      refine Run.done ?_
      refine Run.seq ?_
      refine Run.seq ?_
      refine Run.region ?_
      refine Run.q (v := .int .i64 (1 + (((spR gNodes gxEdges gnEdges p q).length : Nat) : Int) * 1)) rfl (OpQ.y (OpY.pure rfl)) ?_
      refine Run.q (v := .bool (decide ((1 + (((spR gNodes gxEdges gnEdges p q).length : Nat) : Int) * 1) < 0))) rfl (OpQ.y (OpY.pure rfl)) ?_
      refine Run.done ?_
      refine Run.cond (b := decide ((1 + (((spR gNodes gxEdges gnEdges p q).length : Nat) : Int) * 1) < 0)) rfl (fun h77 => ?_) (fun h77 => ?_)
      · have p77 := h77; try simp only [decide_eq_true_eq, decide_eq_false_iff_not, beq_iff_eq, bne_iff_ne, beq_eq_false_iff_ne, ne_eq, gt_iff_lt, ge_iff_le, Int.not_lt, Int.not_le, bne_eq_false_iff_eq, Bool.not_eq_true', Bool.not_eq_false', Bool.and_eq_true, Bool.and_eq_false_iff, Bool.or_eq_true, Bool.or_eq_false_iff, Decidable.not_not, List.cons.injEq, and_true] at p77
        exact absurd h77 (by simp <;> omega) --DONE
      · have p77 := h77; try simp only [decide_eq_true_eq, decide_eq_false_iff_not, beq_iff_eq, bne_iff_ne, beq_eq_false_iff_ne, ne_eq, gt_iff_lt, ge_iff_le, Int.not_lt, Int.not_le, bne_eq_false_iff_eq, Bool.not_eq_true', Bool.not_eq_false', Bool.and_eq_true, Bool.and_eq_false_iff, Bool.or_eq_true, Bool.or_eq_false_iff, Decidable.not_not, List.cons.injEq, and_true] at p77
        refine Run.skip ?_
        refine Run.seq ?_
        refine Run.seq ?_
        refine Run.region ?_
        refine Run.q (v := .int .i64 (1 + (((spR gNodes gxEdges gnEdges p q).length : Nat) : Int) * 1)) rfl (OpQ.y (OpY.pure rfl)) ?_
        refine Run.q (v := .int .i64 (1 + (((spR gNodes gxEdges gnEdges p q).length : Nat) : Int) * 1)) rfl (OpQ.y (OpY.pure rfl)) ?_
        refine Run.q (v := .bool false) rfl (OpQ.y (OpY.neqSame rfl rfl rfl)) ?_
        refine Run.done ?_
        refine Run.cond (b := false) rfl (fun h => nomatch h) (fun _ => ?_)
        refine Run.skip ?_
        refine Run.seq ?_
        refine Run.region ?_
        refine Run.q (v := .agg #[.int .i64 gNodes, gvEdges]) rfl (OpQ.y (OpY.loadN (cs := [.int .i64 gNodes, gvEdges]) Tagg_40 rfl (Cells.blk (.tail _ (.tail _ (.tail _ (.tail _ (.tail _ (.tail _ (List.Mem.head _))))))) ⟨rfl, rfl, trivial⟩))) ?_
        refine Run.step rfl (OpStep.call (vs := [.agg #[.int .i64 gNodes, gvEdges]]) (caps := []) Tcall_26 rfl rfl (fun w hs => toCouplingGraph_spec (hs.sl ghEdges) (by omega)) ?_)
        rintro _ _ ⟨u6, rfl, rfl⟩
        show Run _ _ (putF _ _ _ (.agg #[.int .i64 gNodes, u6])) [.own u6 180 2 gnEdges (ints gxEdges), .own u4 3 1 ((spR gNodes gxEdges gnEdges p q).length) (ints (mks 1 (((spR gNodes gxEdges gnEdges p q).length) * 1))), .own (.slice A_u31 gnEdges c_u31) 180 2 gnEdges (ints (mks 1 (gnEdges * 2))), .own u5 180 2 gnEdges (ints gxEdges), .blk b2 46 [.int .i64 gNodes, .slice A_u31 gnEdges c_u31], .own u2 3 1 ((spR gNodes gxEdges gnEdges p q).length) (ints (spR gNodes gxEdges gnEdges p q)), .own u1 180 2 gnEdges (ints gxEdges), .blk b1 40 [.int .i64 gNodes, gvEdges]]
        refine Run.q (v := .int .i64 p) rfl (OpQ.y (OpY.pure rfl)) ?_
        refine Run.q (v := .int .i64 q) rfl (OpQ.y (OpY.pure rfl)) ?_
        refine Run.step rfl (OpStep.call (vs := [.agg #[.int .i64 gNodes, u6], .int .i64 p, .int .i64 q]) (caps := []) Tcall_55 rfl rfl (fun w hs => ShortestPath_spec (hs.slOwn (.head _))) ?_)
        rintro _ _ ⟨u7, hlen, rfl, rfl⟩
        show Run _ _ (putF _ _ _ (.tuple #[u7, .bool (spB gNodes gxEdges gnEdges p q)])) [.own u7 3 1 ((spR gNodes gxEdges gnEdges p q).length) (ints (spR gNodes gxEdges gnEdges p q)), .own u6 180 2 gnEdges (ints gxEdges), .own u4 3 1 ((spR gNodes gxEdges gnEdges p q).length) (ints (mks 1 (((spR gNodes gxEdges gnEdges p q).length) * 1))), .own (.slice A_u31 gnEdges c_u31) 180 2 gnEdges (ints (mks 1 (gnEdges * 2))), .own u5 180 2 gnEdges (ints gxEdges), .blk b2 46 [.int .i64 gNodes, .slice A_u31 gnEdges c_u31], .own u2 3 1 ((spR gNodes gxEdges gnEdges p q).length) (ints (spR gNodes gxEdges gnEdges p q)), .own u1 180 2 gnEdges (ints gxEdges), .blk b1 40 [.int .i64 gNodes, gvEdges]]
        refine Run.q (v := .tuple #[u7, .bool (spB gNodes gxEdges gnEdges p q)]) rfl (OpQ.y (OpY.pure rfl)) ?_
        refine Run.q (v := u7) rfl (OpQ.y (OpY.pure rfl)) ?_
        refine Run.q (v := .bool (spB gNodes gxEdges gnEdges p q)) rfl (OpQ.y (OpY.pure rfl)) ?_
        refine Run.q (v := u7) rfl (OpQ.y (OpY.pure rfl)) ?_
        refine Run.q (v := .bool (spB gNodes gxEdges gnEdges p q)) rfl (OpQ.y (OpY.pure rfl)) ?_
        refine Run.done ?_
        refine Run.seq ?_
        refine Run.seq ?_
        refine Run.region ?_
        refine Run.q (v := u7) rfl (OpQ.y (OpY.pure rfl)) ?_
        refine Run.q (v := u2) rfl (OpQ.y (OpY.pure rfl)) ?_
        refine Run.q (v := .bool true) rfl (OpQ.call (vs := [u7, u2]) (caps := []) Tcall_19 rfl rfl (fun w hs => eqIntS_true (hs.slOwn (.head _)) (hs.slOwn (.tail _ (.tail _ (.tail _ (.tail _ (.tail _ (.tail _ (List.Mem.head _)))))))) rfl)) ?_
        refine Run.q (v := .bool false) rfl (OpQ.y (OpY.pure rfl)) ?_
        refine Run.q (v := .bool false) rfl (OpQ.y (OpY.pure rfl)) ?_
        refine Run.q (v := .bool (spB gNodes gxEdges gnEdges p q)) rfl (OpQ.y (OpY.pure rfl)) ?_
        refine Run.q (v := .bool (spB gNodes gxEdges gnEdges p q)) rfl (OpQ.y (OpY.pure rfl)) ?_
        refine Run.q (v := .bool false) rfl (OpQ.y (OpY.neqBSame Tbool_4 rfl rfl rfl)) ?_
        refine Run.q (v := .bool false) rfl (OpQ.y (OpY.pure rfl)) ?_
        refine Run.done ?_
        refine Run.cond (b := false) rfl (fun h => nomatch h) (fun _ => ?_)
        refine Run.skip ?_
        refine Run.seq ?_
        refine Run.region ?_
        refine Run.q (v := .int .i64 1) rfl (OpQ.y (OpY.pure rfl)) ?_
        refine Run.done ?_
        refine Run.seq ?_
        refine Run.region ?_
        refine Run.q (v := u4) rfl (OpQ.y (OpY.pure rfl)) ?_
        refine Run.q (v := .int .i64 1) rfl (OpQ.y (OpY.pure rfl)) ?_
        refine Run.q (v := .int .i64 (1 + (((spR gNodes gxEdges gnEdges p q).length : Nat) : Int) * 1)) rfl (OpQ.call (vs := [u4, .int .i64 1]) (caps := []) Tcall_23 rfl rfl (fun w hs => heldIntS_true (hs.slOwn (.tail _ (.tail _ (List.Mem.head _)))) (by omega) (by omega) rfl)) ?_
        refine Run.q (v := .int .i64 (1 + (((spR gNodes gxEdges gnEdges p q).length : Nat) : Int) * 1)) rfl (OpQ.y (OpY.pure rfl)) ?_
        refine Run.done ?_
        refine Run.seq ?_
        refine Run.seq ?_
        refine Run.region ?_
        refine Run.q (v := .int .i64 (1 + (((spR gNodes gxEdges gnEdges p q).length : Nat) : Int) * 1)) rfl (OpQ.y (OpY.pure rfl)) ?_
        refine Run.q (v := .bool (decide ((1 + (((spR gNodes gxEdges gnEdges p q).length : Nat) : Int) * 1) < 0))) rfl (OpQ.y (OpY.pure rfl)) ?_
        refine Run.done ?_
        refine Run.cond (b := decide ((1 + (((spR gNodes gxEdges gnEdges p q).length : Nat) : Int) * 1) < 0)) rfl (fun h102 => ?_) (fun h102 => ?_)
        · have p102 := h102; try simp only [decide_eq_true_eq, decide_eq_false_iff_not, beq_iff_eq, bne_iff_ne, beq_eq_false_iff_ne, ne_eq, gt_iff_lt, ge_iff_le, Int.not_lt, Int.not_le, bne_eq_false_iff_eq, Bool.not_eq_true', Bool.not_eq_false', Bool.and_eq_true, Bool.and_eq_false_iff, Bool.or_eq_true, Bool.or_eq_false_iff, Decidable.not_not, List.cons.injEq, and_true] at p102
          exact absurd h102 (by simp <;> omega) --DONE
        · have p102 := h102; try simp only [decide_eq_true_eq, decide_eq_false_iff_not, beq_iff_eq, bne_iff_ne, beq_eq_false_iff_ne, ne_eq, gt_iff_lt, ge_iff_le, Int.not_lt, Int.not_le, bne_eq_false_iff_eq, Bool.not_eq_true', Bool.not_eq_false', Bool.and_eq_true, Bool.and_eq_false_iff, Bool.or_eq_true, Bool.or_eq_false_iff, Decidable.not_not, List.cons.injEq, and_true] at p102
          refine Run.skip ?_
          refine Run.seq ?_
          refine Run.seq ?_
          refine Run.region ?_
          refine Run.q (v := .int .i64 (1 + (((spR gNodes gxEdges gnEdges p q).length : Nat) : Int) * 1)) rfl (OpQ.y (OpY.pure rfl)) ?_
          refine Run.q (v := .int .i64 (1 + (((spR gNodes gxEdges gnEdges p q).length : Nat) : Int) * 1)) rfl (OpQ.y (OpY.pure rfl)) ?_
          refine Run.q (v := .bool false) rfl (OpQ.y (OpY.neqSame rfl rfl rfl)) ?_
          refine Run.done ?_
          refine Run.cond (b := false) rfl (fun h => nomatch h) (fun _ => ?_)
          refine Run.skip ?_
          refine Run.seq ?_
          refine Run.region ?_
          refine Run.q (v := .bool true) rfl (OpQ.y (OpY.pure rfl)) ?_
          refine Run.done ?_
          refine Run.ret ?_
          refine ⟨.bool true, [], Out.one rfl rfl, (Some'.weak (.nil _)), ?_⟩
          rfl

end Go.Proofs.Ytbpllboldphhiaa
