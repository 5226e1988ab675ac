/- The walk of the law FnExactFoataOf. -/
import Derived.Test.YtbepibalnnbmgaaFp
import Derived.Test.YtbepibalnnbmgaaInts
import Derived.Test.YtbepibalnnbmgaaProg
set_option linter.unusedSimpArgs false
set_option linter.unusedVariables false
namespace Go.Proofs.Ytbepibalnnbmgaa
open Go Go.RowKit
namespace L38T
theorem Tagg_24 : aggOf Try.prog 24 = some 2 := by kernel_rfl
theorem Tagg_30 : aggOf Try.prog 30 = some 2 := by kernel_rfl
theorem Tbool_4 : Try.prog.underlying 4 = some .bool := by kernel_rfl
theorem Tcall_10 : callable Try.prog 10 = true := by kernel_rfl
theorem Tcall_11 : callable Try.prog 11 = true := by kernel_rfl
theorem Tcall_12 : callable Try.prog 12 = true := by kernel_rfl
theorem Tcall_13 : callable Try.prog 13 = true := by kernel_rfl
theorem Tcall_5 : callable Try.prog 5 = true := by kernel_rfl
theorem Tcall_7 : callable Try.prog 7 = true := by kernel_rfl
theorem Tcall_9 : callable Try.prog 9 = true := by kernel_rfl
theorem Tsize_30 : (Try.prog.info? 30).map (·.size) = some 2 := by kernel_rfl
theorem Tzero_30 : zeroOf Try.prog 30 = some [.int .i64 0, .slice none 0 0] := by kernel_rfl
end L38T
open L38T
set_option maxHeartbeats 1000000 in
set_option maxRecDepth 20000 in
theorem law_spec {cQubits : Int} {cvGates : Value} {cnGates : Nat} {cxGates : List Int} {w : World} (cwQubits : In64 cQubits) (chGates : Sl w cvGates 3 cnGates (ints cxGates)) (cwGates : ∀ x ∈ cxGates, In64 x) : Calls Try.prog 4 #[.agg #[.int .i64 cQubits, cvGates]] w (Post No w fun v _ => v = .bool true) := by
  have hlen := foM_le cQubits cxGates cnGates
  refine enter (n := 96) (args := [.agg #[.int .i64 cQubits, cvGates]]) Try.func4 rfl rfl (St.empty _ _) ?_
  refine Run.seq ?_
  refine Run.region ?_
  refine Run.step rfl (OpStep.box (us := [.int .i64 cQubits, cvGates]) rfl fun b1 => ?_)
  refine Run.q (v := .bool false) rfl (OpQ.y (OpY.pure rfl)) ?_
  refine Run.done ?_
  refine Run.seq ?_
  refine Run.region ?_
  refine Run.q (v := .int .i64 1048576) rfl (OpQ.y (OpY.pure rfl)) ?_
  refine Run.done ?_
  refine Run.seq ?_
  refine Run.region ?_
  refine Run.q (v := .agg #[.int .i64 cQubits, cvGates]) rfl (OpQ.y (OpY.loadN (cs := [.int .i64 cQubits, cvGates]) Tagg_24 rfl (Cells.blk (.head _) ⟨rfl, rfl, trivial⟩))) ?_
  refine Run.q (v := .int .i64 1048576) rfl (OpQ.y (OpY.pure rfl)) ?_
  refine Run.q (v := .int .i64 (szN 1048576 [cnGates])) rfl (OpQ.call (vs := [.agg #[.int .i64 cQubits, cvGates], .int .i64 1048576]) (caps := []) Tcall_5 rfl rfl (fun w hs => szCircuit_spec (hs.sl chGates) (by omega) (by omega))) ?_
  refine Run.q (v := .int .i64 (szN 1048576 [cnGates])) rfl (OpQ.y (OpY.pure rfl)) ?_
  refine Run.done ?_
  refine Run.seq ?_
  refine Run.seq ?_
  refine Run.region ?_
  refine Run.q (v := .int .i64 (szN 1048576 [cnGates])) rfl (OpQ.y (OpY.pure rfl)) ?_
  refine Run.q (v := .bool (decide ((szN 1048576 [cnGates]) < 0))) rfl (OpQ.y (OpY.pure rfl)) ?_
  refine Run.done ?_
  refine Run.cond (b := decide ((szN 1048576 [cnGates]) < 0)) rfl (fun h18 => ?_) (fun h18 => ?_)
  · have p18 := h18; try simp only [decide_eq_true_eq, decide_eq_false_iff_not, beq_iff_eq, bne_iff_ne, beq_eq_false_iff_ne, ne_eq, gt_iff_lt, ge_iff_le, Int.not_lt, Int.not_le, bne_eq_false_iff_eq, Bool.not_eq_true', Bool.not_eq_false', Bool.and_eq_true, Bool.and_eq_false_iff, Bool.or_eq_true, Bool.or_eq_false_iff, Decidable.not_not, List.cons.injEq, and_true] at p18
    refine Run.seq ?_
    refine Run.region ?_
    refine Run.q (v := .bool true) rfl (OpQ.y (OpY.pure rfl)) ?_
    refine Run.done ?_
    refine Run.ret ?_
    refine ⟨.bool true, [], Out.one rfl rfl, (Some'.weak (.nil _)), ?_⟩
    rfl
  · have p18 := h18; try simp only [decide_eq_true_eq, decide_eq_false_iff_not, beq_iff_eq, bne_iff_ne, beq_eq_false_iff_ne, ne_eq, gt_iff_lt, ge_iff_le, Int.not_lt, Int.not_le, bne_eq_false_iff_eq, Bool.not_eq_true', Bool.not_eq_false', Bool.and_eq_true, Bool.and_eq_false_iff, Bool.or_eq_true, Bool.or_eq_false_iff, Decidable.not_not, List.cons.injEq, and_true] at p18
    have hz18 := szN_bound (ns := [cnGates]) (l := 1048576) p18
    have hz18cnGates := hz18 cnGates (by simp)
    refine Run.skip ?_
    refine Run.seq ?_
    refine Run.region ?_
    refine Run.q (v := .agg #[.int .i64 cQubits, cvGates]) rfl (OpQ.y (OpY.loadN (cs := [.int .i64 cQubits, cvGates]) Tagg_24 rfl (Cells.blk (.head _) ⟨rfl, rfl, trivial⟩))) ?_
    refine Run.step rfl (OpStep.call (vs := [.agg #[.int .i64 cQubits, cvGates]]) (caps := []) Tcall_7 rfl rfl (fun w hs => toCircuit_spec (hs.sl chGates) (by omega)) ?_)
    rintro _ _ ⟨u1, rfl, rfl⟩
    show Run _ _ (putF _ _ _ (.agg #[.int .i64 cQubits, u1])) [.own u1 47 3 cnGates (ints cxGates), .blk b1 24 [.int .i64 cQubits, cvGates]]
    refine Run.step rfl (OpStep.call (vs := [.agg #[.int .i64 cQubits, u1]]) (caps := []) Tcall_10 rfl rfl (fun w hs => sFoataOf_spec (hs.slOwn (.head _))) ?_)
    rintro _ _ ⟨u2, rfl, rfl⟩
    show Run _ _ (putF _ _ _ (.tuple #[.agg #[.int .i64 (foN cQubits cxGates cnGates), u2], .bool (circOk cQubits cxGates cnGates)])) [.own u2 47 3 (foM cQubits cxGates cnGates) (ints (foR cQubits cxGates cnGates)), .own u1 47 3 cnGates (ints cxGates), .blk b1 24 [.int .i64 cQubits, cvGates]]
    refine Run.q (v := .tuple #[.agg #[.int .i64 (foN cQubits cxGates cnGates), u2], .bool (circOk cQubits cxGates cnGates)]) rfl (OpQ.y (OpY.pure rfl)) ?_
    refine Run.q (v := .agg #[.int .i64 (foN cQubits cxGates cnGates), u2]) rfl (OpQ.y (OpY.pure rfl)) ?_
    refine Run.q (v := .bool (circOk cQubits cxGates cnGates)) rfl (OpQ.y (OpY.pure rfl)) ?_
    refine Run.step rfl (OpStep.alloc (zs := [.int .i64 0, .slice none 0 0]) Tzero_30 fun b2 => ?_)
    refine Run.formOwn (.tail _ (List.Mem.head _)) (fun A_u21 c_u21 hv hcapc_u21 hmaxc_u21 => ?_) (fun _ _ _ => ⟨nofun, nofun, nofun⟩)
    subst hv
    refine Run.step rfl (OpStep.storeAll (us := [.int .i64 (foN cQubits cxGates cnGates), .slice A_u21 (foM cQubits cxGates cnGates) c_u21]) Tsize_30 rfl rfl rfl (.here _) rfl ?_)
    refine Run.q (v := .bool (circOk cQubits cxGates cnGates)) rfl (OpQ.y (OpY.pure rfl)) ?_
    refine Run.done ?_
    refine Run.seq ?_
    refine Run.region ?_
    refine Run.q (v := .agg #[.int .i64 cQubits, cvGates]) rfl (OpQ.y (OpY.loadN (cs := [.int .i64 cQubits, cvGates]) Tagg_24 rfl (Cells.blk (.tail _ (.tail _ (.tail _ (List.Mem.head _)))) ⟨rfl, rfl, trivial⟩))) ?_
    refine Run.step rfl (OpStep.call (vs := [.agg #[.int .i64 cQubits, cvGates]]) (caps := []) Tcall_7 rfl rfl (fun w hs => toCircuit_spec (hs.sl chGates) (by omega)) ?_)
    rintro _ _ ⟨u3, rfl, rfl⟩
    show Run _ _ (putF _ _ _ (.agg #[.int .i64 cQubits, u3])) [.own u3 47 3 cnGates (ints cxGates), .blk b2 30 [.int .i64 (foN cQubits cxGates cnGates), .slice A_u21 (foM cQubits cxGates cnGates) c_u21], .own (.slice A_u21 (foM cQubits cxGates cnGates) c_u21) 47 3 (foM cQubits cxGates cnGates) (ints (foR cQubits cxGates cnGates)), .own u1 47 3 cnGates (ints cxGates), .blk b1 24 [.int .i64 cQubits, cvGates]]
    refine Run.step rfl (OpStep.alloc (zs := [.int .i64 0, .slice none 0 0]) Tzero_30 fun b3 => ?_)
    refine Run.formOwn (.tail _ (List.Mem.head _)) (fun A_u31 c_u31 hv hcapc_u31 hmaxc_u31 => ?_) (fun _ _ _ => ⟨nofun, nofun, nofun⟩)
    subst hv
    refine Run.step rfl (OpStep.storeAll (us := [.int .i64 cQubits, .slice A_u31 cnGates c_u31]) Tsize_30 rfl rfl rfl (.here _) rfl ?_)
    refine Run.done ?_
    refine Run.seq ?_
    refine Run.region ?_
    refine Run.q (v := .agg #[.int .i64 cQubits, .slice A_u31 cnGates c_u31]) rfl (OpQ.y (OpY.loadN (cs := [.int .i64 cQubits, .slice A_u31 cnGates c_u31]) Tagg_30 rfl (Cells.blk (.head _) ⟨rfl, rfl, trivial⟩))) ?_
    refine Run.step rfl (OpStep.call (vs := [.agg #[.int .i64 cQubits, .slice A_u31 cnGates c_u31]]) (caps := []) Tcall_11 rfl rfl (fun w hs => FoataOf_spec (hs.slOwn (.tail _ (List.Mem.head _)))) ?_)
    rintro _ _ ⟨u4, rfl, rfl⟩
    show Run _ _ (putF _ _ _ (.tuple #[.agg #[.int .i64 (foN cQubits cxGates cnGates), u4], .bool (circOk cQubits cxGates cnGates)])) [.own u4 47 3 (foM cQubits cxGates cnGates) (ints (foR cQubits cxGates cnGates)), .blk b3 30 [.int .i64 cQubits, .slice A_u31 cnGates c_u31], .own (.slice A_u31 cnGates c_u31) 47 3 cnGates (ints cxGates), .blk b2 30 [.int .i64 (foN cQubits cxGates cnGates), .slice A_u21 (foM cQubits cxGates cnGates) c_u21], .own (.slice A_u21 (foM cQubits cxGates cnGates) c_u21) 47 3 (foM cQubits cxGates cnGates) (ints (foR cQubits cxGates cnGates)), .own u1 47 3 cnGates (ints cxGates), .blk b1 24 [.int .i64 cQubits, cvGates]]
    refine Run.q (v := .tuple #[.agg #[.int .i64 (foN cQubits cxGates cnGates), u4], .bool (circOk cQubits cxGates cnGates)]) rfl (OpQ.y (OpY.pure rfl)) ?_
    refine Run.q (v := .agg #[.int .i64 (foN cQubits cxGates cnGates), u4]) rfl (OpQ.y (OpY.pure rfl)) ?_
    refine Run.q (v := .bool (circOk cQubits cxGates cnGates)) rfl (OpQ.y (OpY.pure rfl)) ?_
    refine Run.step rfl (OpStep.alloc (zs := [.int .i64 0, .slice none 0 0]) Tzero_30 fun b4 => ?_)
    refine Run.formOwn (.tail _ (List.Mem.head _)) (fun A_u41 c_u41 hv hcapc_u41 hmaxc_u41 => ?_) (fun _ _ _ => ⟨nofun, nofun, nofun⟩)
    subst hv
    refine Run.step rfl (OpStep.storeAll (us := [.int .i64 (foN cQubits cxGates cnGates), .slice A_u41 (foM cQubits cxGates cnGates) c_u41]) Tsize_30 rfl rfl rfl (.here _) rfl ?_)
    refine Run.q (v := .bool (circOk cQubits cxGates cnGates)) rfl (OpQ.y (OpY.pure rfl)) ?_
    refine Run.done ?_
    refine Run.seq ?_
    refine Run.seq ?_
    refine Run.region ?_
    refine Run.q (v := .agg #[.int .i64 (foN cQubits cxGates cnGates), .slice A_u41 (foM cQubits cxGates cnGates) c_u41]) rfl (OpQ.y (OpY.loadN (cs := [.int .i64 (foN cQubits cxGates cnGates), .slice A_u41 (foM cQubits cxGates cnGates) c_u41]) Tagg_30 rfl (Cells.blk (.head _) ⟨rfl, rfl, trivial⟩))) ?_
    refine Run.q (v := .agg #[.int .i64 (foN cQubits cxGates cnGates), .slice A_u21 (foM cQubits cxGates cnGates) c_u21]) rfl (OpQ.y (OpY.loadN (cs := [.int .i64 (foN cQubits cxGates cnGates), .slice A_u21 (foM cQubits cxGates cnGates) c_u21]) Tagg_30 rfl (Cells.blk (.tail _ (.tail _ (.tail _ (.tail _ (List.Mem.head _))))) ⟨rfl, rfl, trivial⟩))) ?_
    refine Run.q (v := .bool true) rfl (OpQ.call (vs := [.agg #[.int .i64 (foN cQubits cxGates cnGates), .slice A_u41 (foM cQubits cxGates cnGates) c_u41], .agg #[.int .i64 (foN cQubits cxGates cnGates), .slice A_u21 (foM cQubits cxGates cnGates) c_u21]]) (caps := []) Tcall_9 rfl rfl (fun w hs => eqCircuit_true (hs.slOwn (.tail _ (List.Mem.head _))) (hs.slOwn (.tail _ (.tail _ (.tail _ (.tail _ (.tail _ (List.Mem.head _))))))))) ?_
    refine Run.q (v := .bool false) rfl (OpQ.y (OpY.pure rfl)) ?_
    refine Run.q (v := .bool false) rfl (OpQ.y (OpY.pure rfl)) ?_
    refine Run.q (v := .bool (circOk cQubits cxGates cnGates)) rfl (OpQ.y (OpY.pure rfl)) ?_
    refine Run.q (v := .bool (circOk cQubits cxGates cnGates)) rfl (OpQ.y (OpY.pure rfl)) ?_
    refine Run.q (v := .bool false) rfl (OpQ.y (OpY.neqBSame Tbool_4 rfl rfl rfl)) ?_
    refine Run.q (v := .bool false) rfl (OpQ.y (OpY.pure rfl)) ?_
    refine Run.done ?_
    refine Run.cond (b := false) rfl (fun h => nomatch h) (fun _ => ?_)
    refine Run.skip ?_
    refine Run.seq ?_
    refine Run.seq ?_
    refine Run.held (by kernel_rfl) ?_
    refine DW.take (i := 0) (v := .agg #[.int .i64 cQubits, .slice A_u31 cnGates c_u31]) rfl (by kernel_rfl) (by kernel_rfl) (by kernel_rfl) (fun _ _ _ h => h) (Weak.refl _) rfl (OpY.loadN (cs := [.int .i64 cQubits, .slice A_u31 cnGates c_u31]) Tagg_30 rfl (Cells.blk (.tail _ (.tail _ (List.Mem.head _))) ⟨rfl, rfl, trivial⟩)) ?_
    refine DW.take (i := 1) (v := .agg #[.int .i64 cQubits, cvGates]) rfl (by kernel_rfl) (by kernel_rfl) (by kernel_rfl) (fun _ _ _ h => h) (Weak.refl _) rfl (OpY.loadN (cs := [.int .i64 cQubits, cvGates]) Tagg_24 rfl (Cells.blk (.tail _ (.tail _ (.tail _ (.tail _ (.tail _ (.tail _ (.tail _ (List.Mem.head _)))))))) ⟨rfl, rfl, trivial⟩)) ?_
    refine DW.step (i := 2) (by kernel_rfl) rfl rfl (OpStep.call (vs := [.agg #[.int .i64 cQubits, cvGates]]) (caps := []) Tcall_7 rfl rfl (fun w hs => toCircuit_spec (hs.sl chGates) (by omega)) ?_)
    rintro _ _ ⟨u5, rfl, rfl⟩
    refine ⟨(Some'.weak (.skip (.take (.take (.take (.take (.take (.take (.take (.take (.nil _))))))))))), ?_⟩
    refine DW.step (i := 3) (by kernel_rfl) rfl rfl (OpStep.q (v := .bool true) (OpQ.call (vs := [.agg #[.int .i64 cQubits, .slice A_u31 cnGates c_u31], .agg #[.int .i64 cQubits, u5]]) (caps := []) Tcall_9 rfl rfl (fun w hs => eqCircuit_true (hs.slOwn (.tail _ (.tail _ (.tail _ (.tail _ (List.Mem.head _)))))) (hs.slOwn (.head _)))) ?_)
    refine ⟨(Some'.weak (.skip (.take (.take (.take (.take (.take (.take (.take (.take (.nil _))))))))))), ?_⟩
    refine DW.take (i := 4) (v := .bool false) rfl (by kernel_rfl) (by kernel_rfl) (by kernel_rfl) (fun _ _ _ h => h) (Some'.weak (.skip (.take (.take (.take (.take (.take (.take (.take (.take (.nil _))))))))))) rfl (OpY.pure rfl) ?_
    refine DW.done (by kernel_rfl) ?_
    refine Run.cond (b := false) rfl (fun h => nomatch h) (fun _ => ?_)
    refine Run.skip ?_
    refine Run.seq ?_
    refine Run.region ?_
    refine Run.q (v := .int .i64 1) rfl (OpQ.y (OpY.pure rfl)) ?_
    refine Run.done ?_
    refine Run.seq ?_
    refine Run.region ?_
    refine Run.q (v := .agg #[.int .i64 cQubits, .slice A_u31 cnGates c_u31]) rfl (OpQ.y (OpY.loadN (cs := [.int .i64 cQubits, .slice A_u31 cnGates c_u31]) Tagg_30 rfl (Cells.blk (.tail _ (.tail _ (.tail _ (List.Mem.head _)))) ⟨rfl, rfl, trivial⟩))) ?_
    refine Run.q (v := .int .i64 1) rfl (OpQ.y (OpY.pure rfl)) ?_
    refine Run.step rfl (OpStep.callM (H1 := [.own (.slice A_u31 cnGates c_u31) 47 3 cnGates (ints cxGates)]) (H2 := [.own u5 47 3 cnGates (ints cxGates), .blk b4 30 [.int .i64 (foN cQubits cxGates cnGates), .slice A_u41 (foM cQubits cxGates cnGates) c_u41], .own (.slice A_u41 (foM cQubits cxGates cnGates) c_u41) 47 3 (foM cQubits cxGates cnGates) (ints (foR cQubits cxGates cnGates)), .blk b3 30 [.int .i64 cQubits, .slice A_u31 cnGates c_u31], .blk b2 30 [.int .i64 (foN cQubits cxGates cnGates), .slice A_u21 (foM cQubits cxGates cnGates) c_u21], .own (.slice A_u21 (foM cQubits cxGates cnGates) c_u21) 47 3 (foM cQubits cxGates cnGates) (ints (foR cQubits cxGates cnGates)), .own u1 47 3 cnGates (ints cxGates), .blk b1 24 [.int .i64 cQubits, cvGates]]) (vs := [.agg #[.int .i64 cQubits, .slice A_u31 cnGates c_u31], .int .i64 1]) (caps := []) Tcall_12 rfl rfl (Weak.front [.own u5 47 3 cnGates (ints cxGates), .blk b4 30 [.int .i64 (foN cQubits cxGates cnGates), .slice A_u41 (foM cQubits cxGates cnGates) c_u41], .own (.slice A_u41 (foM cQubits cxGates cnGates) c_u41) 47 3 (foM cQubits cxGates cnGates) (ints (foR cQubits cxGates cnGates)), .blk b3 30 [.int .i64 cQubits, .slice A_u31 cnGates c_u31]] (.own (.slice A_u31 cnGates c_u31) 47 3 cnGates (ints cxGates)) [.blk b2 30 [.int .i64 (foN cQubits cxGates cnGates), .slice A_u21 (foM cQubits cxGates cnGates) c_u21], .own (.slice A_u21 (foM cQubits cxGates cnGates) c_u21) 47 3 (foM cQubits cxGates cnGates) (ints (foR cQubits cxGates cnGates)), .own u1 47 3 cnGates (ints cxGates), .blk b1 24 [.int .i64 cQubits, cvGates]]) (fun w hs => markCircuit_spec (hs.sub (List.sublist_append_left _ _)).self (by omega) (by omega)) ?_)
    rintro _ _ ⟨rfl, rfl⟩
    show Run _ _ (putF _ _ _ (.int .i64 (1 + ((cnGates : Nat) : Int) * 3))) [.own (.slice A_u31 cnGates c_u31) 47 3 cnGates (ints (mks 1 (cnGates * 3))), .own u5 47 3 cnGates (ints cxGates), .blk b4 30 [.int .i64 (foN cQubits cxGates cnGates), .slice A_u41 (foM cQubits cxGates cnGates) c_u41], .own (.slice A_u41 (foM cQubits cxGates cnGates) c_u41) 47 3 (foM cQubits cxGates cnGates) (ints (foR cQubits cxGates cnGates)), .blk b3 30 [.int .i64 cQubits, .slice A_u31 cnGates c_u31], .blk b2 30 [.int .i64 (foN cQubits cxGates cnGates), .slice A_u21 (foM cQubits cxGates cnGates) c_u21], .own (.slice A_u21 (foM cQubits cxGates cnGates) c_u21) 47 3 (foM cQubits cxGates cnGates) (ints (foR cQubits cxGates cnGates)), .own u1 47 3 cnGates (ints cxGates), .blk b1 24 [.int .i64 cQubits, cvGates]]
    refine Run.q (v := .int .i64 (1 + ((cnGates : Nat) : Int) * 3)) rfl (OpQ.y (OpY.pure rfl)) ?_
    refine Run.done ?_
    refine Run.seq ?_
    refine Run.seq ?_
    refine Run.region ?_
    refine Run.q (v := .int .i64 (1 + ((cnGates : Nat) : Int) * 3)) rfl (OpQ.y (OpY.pure rfl)) ?_
    refine Run.q (v := .bool (decide ((1 + ((cnGates : Nat) : Int) * 3) < 0))) rfl (OpQ.y (OpY.pure rfl)) ?_
    rcases Bool.eq_false_or_eq_true (decide ((1 + ((cnGates : Nat) : Int) * 3) < 0)) with h51 | h51
    · exact absurd h51 (by simp <;> omega) --DONE
    · refine Run.q (v := .bool false) rfl (OpQ.y (OpY.moveB rfl h51)) ?_
      have p51 := h51; try simp only [decide_eq_true_eq, decide_eq_false_iff_not, beq_iff_eq, bne_iff_ne, beq_eq_false_iff_ne, ne_eq, gt_iff_lt, ge_iff_le, Int.not_lt, Int.not_le, bne_eq_false_iff_eq, Bool.not_eq_true', Bool.not_eq_false', Bool.and_eq_true, Bool.and_eq_false_iff, Bool.or_eq_true, Bool.or_eq_false_iff, Decidable.not_not, List.cons.injEq, and_true] at p51
      refine Run.q (v := .agg #[.int .i64 (foN cQubits cxGates cnGates), .slice A_u41 (foM cQubits cxGates cnGates) c_u41]) rfl (OpQ.y (OpY.loadN (cs := [.int .i64 (foN cQubits cxGates cnGates), .slice A_u41 (foM cQubits cxGates cnGates) c_u41]) Tagg_30 rfl (Cells.blk (.tail _ (.tail _ (List.Mem.head _))) ⟨rfl, rfl, trivial⟩))) ?_
      refine Run.q (v := .agg #[.int .i64 (foN cQubits cxGates cnGates), .slice A_u21 (foM cQubits cxGates cnGates) c_u21]) rfl (OpQ.y (OpY.loadN (cs := [.int .i64 (foN cQubits cxGates cnGates), .slice A_u21 (foM cQubits cxGates cnGates) c_u21]) Tagg_30 rfl (Cells.blk (.tail _ (.tail _ (.tail _ (.tail _ (.tail _ (List.Mem.head _)))))) ⟨rfl, rfl, trivial⟩))) ?_
      refine Run.q (v := .bool true) rfl (OpQ.call (vs := [.agg #[.int .i64 (foN cQubits cxGates cnGates), .slice A_u41 (foM cQubits cxGates cnGates) c_u41], .agg #[.int .i64 (foN cQubits cxGates cnGates), .slice A_u21 (foM cQubits cxGates cnGates) c_u21]]) (caps := []) Tcall_9 rfl rfl (fun w hs => eqCircuit_true (hs.slOwn (.tail _ (.tail _ (.tail _ (List.Mem.head _))))) (hs.slOwn (.tail _ (.tail _ (.tail _ (.tail _ (.tail _ (.tail _ (List.Mem.head _)))))))))) ?_
      refine Run.q (v := .bool false) rfl (OpQ.y (OpY.pure rfl)) ?_
      refine Run.q (v := .bool false) rfl (OpQ.y (OpY.pure rfl)) ?_
      refine Run.q (v := .bool false) rfl (OpQ.y (OpY.pure rfl)) ?_
      refine Run.q (v := .bool (circOk cQubits cxGates cnGates)) rfl (OpQ.y (OpY.pure rfl)) ?_
      refine Run.q (v := .bool (circOk cQubits cxGates cnGates)) rfl (OpQ.y (OpY.pure rfl)) ?_
      refine Run.q (v := .bool false) rfl (OpQ.y (OpY.neqBSame Tbool_4 rfl rfl rfl)) ?_
      refine Run.q (v := .bool false) rfl (OpQ.y (OpY.pure rfl)) ?_
      refine Run.done ?_
      refine Run.cond (b := false) rfl (fun h => nomatch h) (fun _ => ?_)
      refine Run.skip ?_
      refine Run.seq ?_
      refine Run.region ?_
      refine Run.q (v := .int .i64 1) rfl (OpQ.y (OpY.pure rfl)) ?_
      refine Run.done ?_
      refine Run.seq ?_
      refine Run.region ?_
      refine Run.q (v := .agg #[.int .i64 (foN cQubits cxGates cnGates), .slice A_u41 (foM cQubits cxGates cnGates) c_u41]) rfl (OpQ.y (OpY.loadN (cs := [.int .i64 (foN cQubits cxGates cnGates), .slice A_u41 (foM cQubits cxGates cnGates) c_u41]) Tagg_30 rfl (Cells.blk (.tail _ (.tail _ (List.Mem.head _))) ⟨rfl, rfl, trivial⟩))) ?_
      refine Run.q (v := .int .i64 1) rfl (OpQ.y (OpY.pure rfl)) ?_
      refine Run.step rfl (OpStep.callM (H1 := [.own (.slice A_u41 (foM cQubits cxGates cnGates) c_u41) 47 3 (foM cQubits cxGates cnGates) (ints (foR cQubits cxGates cnGates))]) (H2 := [.own (.slice A_u31 cnGates c_u31) 47 3 cnGates (ints (mks 1 (cnGates * 3))), .own u5 47 3 cnGates (ints cxGates), .blk b4 30 [.int .i64 (foN cQubits cxGates cnGates), .slice A_u41 (foM cQubits cxGates cnGates) c_u41], .blk b3 30 [.int .i64 cQubits, .slice A_u31 cnGates c_u31], .blk b2 30 [.int .i64 (foN cQubits cxGates cnGates), .slice A_u21 (foM cQubits cxGates cnGates) c_u21], .own (.slice A_u21 (foM cQubits cxGates cnGates) c_u21) 47 3 (foM cQubits cxGates cnGates) (ints (foR cQubits cxGates cnGates)), .own u1 47 3 cnGates (ints cxGates), .blk b1 24 [.int .i64 cQubits, cvGates]]) (vs := [.agg #[.int .i64 (foN cQubits cxGates cnGates), .slice A_u41 (foM cQubits cxGates cnGates) c_u41], .int .i64 1]) (caps := []) Tcall_12 rfl rfl (Weak.front [.own (.slice A_u31 cnGates c_u31) 47 3 cnGates (ints (mks 1 (cnGates * 3))), .own u5 47 3 cnGates (ints cxGates), .blk b4 30 [.int .i64 (foN cQubits cxGates cnGates), .slice A_u41 (foM cQubits cxGates cnGates) c_u41]] (.own (.slice A_u41 (foM cQubits cxGates cnGates) c_u41) 47 3 (foM cQubits cxGates cnGates) (ints (foR cQubits cxGates cnGates))) [.blk b3 30 [.int .i64 cQubits, .slice A_u31 cnGates c_u31], .blk b2 30 [.int .i64 (foN cQubits cxGates cnGates), .slice A_u21 (foM cQubits cxGates cnGates) c_u21], .own (.slice A_u21 (foM cQubits cxGates cnGates) c_u21) 47 3 (foM cQubits cxGates cnGates) (ints (foR cQubits cxGates cnGates)), .own u1 47 3 cnGates (ints cxGates), .blk b1 24 [.int .i64 cQubits, cvGates]]) (fun w hs => markCircuit_spec (hs.sub (List.sublist_append_left _ _)).self (by omega) (by omega)) ?_)
      rintro _ _ ⟨rfl, rfl⟩
      show Run _ _ (putF _ _ _ (.int .i64 (1 + ((foM cQubits cxGates cnGates : Nat) : Int) * 3))) [.own (.slice A_u41 (foM cQubits cxGates cnGates) c_u41) 47 3 (foM cQubits cxGates cnGates) (ints (mks 1 ((foM cQubits cxGates cnGates) * 3))), .own (.slice A_u31 cnGates c_u31) 47 3 cnGates (ints (mks 1 (cnGates * 3))), .own u5 47 3 cnGates (ints cxGates), .blk b4 30 [.int .i64 (foN cQubits cxGates cnGates), .slice A_u41 (foM cQubits cxGates cnGates) c_u41], .blk b3 30 [.int .i64 cQubits, .slice A_u31 cnGates c_u31], .blk b2 30 [.int .i64 (foN cQubits cxGates cnGates), .slice A_u21 (foM cQubits cxGates cnGates) c_u21], .own (.slice A_u21 (foM cQubits cxGates cnGates) c_u21) 47 3 (foM cQubits cxGates cnGates) (ints (foR cQubits cxGates cnGates)), .own u1 47 3 cnGates (ints cxGates), .blk b1 24 [.int .i64 cQubits, cvGates]]
      refine Run.q (v := .int .i64 (1 + ((foM cQubits cxGates cnGates : Nat) : Int) * 3)) rfl (OpQ.y (OpY.pure rfl)) ?_
      refine Run.done ?_
      refine Run.seq ?_
      refine Run.region ?_
      refine Run.q (v := .int .i64 1) rfl (OpQ.y (OpY.pure rfl)) ?_
      refine Run.done ?_
      refine Run.seq ?_
      refine Run.region ?_
      refine Run.q (v := .agg #[.int .i64 (foN cQubits cxGates cnGates), .slice A_u41 (foM cQubits cxGates cnGates) c_u41]) rfl (OpQ.y (OpY.loadN (cs := [.int .i64 (foN cQubits cxGates cnGates), .slice A_u41 (foM cQubits cxGates cnGates) c_u41]) Tagg_30 rfl (Cells.blk (.tail _ (.tail _ (.tail _ (List.Mem.head _)))) ⟨rfl, rfl, trivial⟩))) ?_
      refine Run.q (v := .int .i64 1) rfl (OpQ.y (OpY.pure rfl)) ?_
      refine Run.q (v := .int .i64 (1 + ((foM cQubits cxGates cnGates : Nat) : Int) * 3)) rfl (OpQ.call (vs := [.agg #[.int .i64 (foN cQubits cxGates cnGates), .slice A_u41 (foM cQubits cxGates cnGates) c_u41], .int .i64 1]) (caps := []) Tcall_13 rfl rfl (fun w hs => heldCircuit_true (hs.slOwn (.head _)) (by omega) (by omega) rfl)) ?_
      refine Run.q (v := .int .i64 (1 + ((foM cQubits cxGates cnGates : Nat) : Int) * 3)) rfl (OpQ.y (OpY.pure rfl)) ?_
      refine Run.done ?_
      refine Run.seq ?_
      refine Run.seq ?_
      refine Run.region ?_
      refine Run.q (v := .int .i64 (1 + ((foM cQubits cxGates cnGates : Nat) : Int) * 3)) rfl (OpQ.y (OpY.pure rfl)) ?_
      refine Run.q (v := .bool (decide ((1 + ((foM cQubits cxGates cnGates : Nat) : Int) * 3) < 0))) rfl (OpQ.y (OpY.pure rfl)) ?_
      refine Run.done ?_
      refine Run.cond (b := decide ((1 + ((foM cQubits cxGates cnGates : Nat) : Int) * 3) < 0)) rfl (fun h69 => ?_) (fun h69 => ?_)
      · have p69 := h69; try simp only [decide_eq_true_eq, decide_eq_false_iff_not, beq_iff_eq, bne_iff_ne, beq_eq_false_iff_ne, ne_eq, gt_iff_lt, ge_iff_le, Int.not_lt, Int.not_le, bne_eq_false_iff_eq, Bool.not_eq_true', Bool.not_eq_false', Bool.and_eq_true, Bool.and_eq_false_iff, Bool.or_eq_true, Bool.or_eq_false_iff, Decidable.not_not, List.cons.injEq, and_true] at p69
        exact absurd h69 (by simp <;> omega) --DONE
      · have p69 := h69; try simp only [decide_eq_true_eq, decide_eq_false_iff_not, beq_iff_eq, bne_iff_ne, beq_eq_false_iff_ne, ne_eq, gt_iff_lt, ge_iff_le, Int.not_lt, Int.not_le, bne_eq_false_iff_eq, Bool.not_eq_true', Bool.not_eq_false', Bool.and_eq_true, Bool.and_eq_false_iff, Bool.or_eq_true, Bool.or_eq_false_iff, Decidable.not_not, List.cons.injEq, and_true] at p69
        refine Run.skip ?_
        refine Run.seq ?_
        refine Run.seq ?_
        refine Run.region ?_
        refine Run.q (v := .int .i64 (1 + ((foM cQubits cxGates cnGates : Nat) : Int) * 3)) rfl (OpQ.y (OpY.pure rfl)) ?_
        refine Run.q (v := .int .i64 (1 + ((foM cQubits cxGates cnGates : Nat) : Int) * 3)) rfl (OpQ.y (OpY.pure rfl)) ?_
        refine Run.q (v := .bool false) rfl (OpQ.y (OpY.neqSame rfl rfl rfl)) ?_
        refine Run.done ?_
        refine Run.cond (b := false) rfl (fun h => nomatch h) (fun _ => ?_)
        refine Run.skip ?_
        refine Run.seq ?_
        refine Run.region ?_
        refine Run.q (v := .agg #[.int .i64 cQubits, cvGates]) rfl (OpQ.y (OpY.loadN (cs := [.int .i64 cQubits, cvGates]) Tagg_24 rfl (Cells.blk (.tail _ (.tail _ (.tail _ (.tail _ (.tail _ (.tail _ (.tail _ (.tail _ (List.Mem.head _))))))))) ⟨rfl, rfl, trivial⟩))) ?_
        refine Run.step rfl (OpStep.call (vs := [.agg #[.int .i64 cQubits, cvGates]]) (caps := []) Tcall_7 rfl rfl (fun w hs => toCircuit_spec (hs.sl chGates) (by omega)) ?_)
        rintro _ _ ⟨u6, rfl, rfl⟩
        show Run _ _ (putF _ _ _ (.agg #[.int .i64 cQubits, u6])) [.own u6 47 3 cnGates (ints cxGates), .own (.slice A_u41 (foM cQubits cxGates cnGates) c_u41) 47 3 (foM cQubits cxGates cnGates) (ints (mks 1 ((foM cQubits cxGates cnGates) * 3))), .own (.slice A_u31 cnGates c_u31) 47 3 cnGates (ints (mks 1 (cnGates * 3))), .own u5 47 3 cnGates (ints cxGates), .blk b4 30 [.int .i64 (foN cQubits cxGates cnGates), .slice A_u41 (foM cQubits cxGates cnGates) c_u41], .blk b3 30 [.int .i64 cQubits, .slice A_u31 cnGates c_u31], .blk b2 30 [.int .i64 (foN cQubits cxGates cnGates), .slice A_u21 (foM cQubits cxGates cnGates) c_u21], .own (.slice A_u21 (foM cQubits cxGates cnGates) c_u21) 47 3 (foM cQubits cxGates cnGates) (ints (foR cQubits cxGates cnGates)), .own u1 47 3 cnGates (ints cxGates), .blk b1 24 [.int .i64 cQubits, cvGates]]
        refine Run.step rfl (OpStep.call (vs := [.agg #[.int .i64 cQubits, u6]]) (caps := []) Tcall_11 rfl rfl (fun w hs => FoataOf_spec (hs.slOwn (.head _))) ?_)
        rintro _ _ ⟨u7, rfl, rfl⟩
        show Run _ _ (putF _ _ _ (.tuple #[.agg #[.int .i64 (foN cQubits cxGates cnGates), u7], .bool (circOk cQubits cxGates cnGates)])) [.own u7 47 3 (foM cQubits cxGates cnGates) (ints (foR cQubits cxGates cnGates)), .own u6 47 3 cnGates (ints cxGates), .own (.slice A_u41 (foM cQubits cxGates cnGates) c_u41) 47 3 (foM cQubits cxGates cnGates) (ints (mks 1 ((foM cQubits cxGates cnGates) * 3))), .own (.slice A_u31 cnGates c_u31) 47 3 cnGates (ints (mks 1 (cnGates * 3))), .own u5 47 3 cnGates (ints cxGates), .blk b4 30 [.int .i64 (foN cQubits cxGates cnGates), .slice A_u41 (foM cQubits cxGates cnGates) c_u41], .blk b3 30 [.int .i64 cQubits, .slice A_u31 cnGates c_u31], .blk b2 30 [.int .i64 (foN cQubits cxGates cnGates), .slice A_u21 (foM cQubits cxGates cnGates) c_u21], .own (.slice A_u21 (foM cQubits cxGates cnGates) c_u21) 47 3 (foM cQubits cxGates cnGates) (ints (foR cQubits cxGates cnGates)), .own u1 47 3 cnGates (ints cxGates), .blk b1 24 [.int .i64 cQubits, cvGates]]
        refine Run.q (v := .tuple #[.agg #[.int .i64 (foN cQubits cxGates cnGates), u7], .bool (circOk cQubits cxGates cnGates)]) rfl (OpQ.y (OpY.pure rfl)) ?_
        refine Run.q (v := .agg #[.int .i64 (foN cQubits cxGates cnGates), u7]) rfl (OpQ.y (OpY.pure rfl)) ?_
        refine Run.q (v := .bool (circOk cQubits cxGates cnGates)) rfl (OpQ.y (OpY.pure rfl)) ?_
        refine Run.step rfl (OpStep.alloc (zs := [.int .i64 0, .slice none 0 0]) Tzero_30 fun b5 => ?_)
        refine Run.formOwn (.tail _ (List.Mem.head _)) (fun A_u71 c_u71 hv hcapc_u71 hmaxc_u71 => ?_) (fun _ _ _ => ⟨nofun, nofun, nofun⟩)
        subst hv
        refine Run.step rfl (OpStep.storeAll (us := [.int .i64 (foN cQubits cxGates cnGates), .slice A_u71 (foM cQubits cxGates cnGates) c_u71]) Tsize_30 rfl rfl rfl (.here _) rfl ?_)
        refine Run.q (v := .bool (circOk cQubits cxGates cnGates)) rfl (OpQ.y (OpY.pure rfl)) ?_
        refine Run.done ?_
        refine Run.seq ?_
        refine Run.seq ?_
        refine Run.region ?_
        refine Run.q (v := .agg #[.int .i64 (foN cQubits cxGates cnGates), .slice A_u71 (foM cQubits cxGates cnGates) c_u71]) rfl (OpQ.y (OpY.loadN (cs := [.int .i64 (foN cQubits cxGates cnGates), .slice A_u71 (foM cQubits cxGates cnGates) c_u71]) Tagg_30 rfl (Cells.blk (.head _) ⟨rfl, rfl, trivial⟩))) ?_
        refine Run.q (v := .agg #[.int .i64 (foN cQubits cxGates cnGates), .slice A_u21 (foM cQubits cxGates cnGates) c_u21]) rfl (OpQ.y (OpY.loadN (cs := [.int .i64 (foN cQubits cxGates cnGates), .slice A_u21 (foM cQubits cxGates cnGates) c_u21]) Tagg_30 rfl (Cells.blk (.tail _ (.tail _ (.tail _ (.tail _ (.tail _ (.tail _ (.tail _ (.tail _ (List.Mem.head _))))))))) ⟨rfl, rfl, trivial⟩))) ?_
        refine Run.q (v := .bool true) rfl (OpQ.call (vs := [.agg #[.int .i64 (foN cQubits cxGates cnGates), .slice A_u71 (foM cQubits cxGates cnGates) c_u71], .agg #[.int .i64 (foN cQubits cxGates cnGates), .slice A_u21 (foM cQubits cxGates cnGates) c_u21]]) (caps := []) Tcall_9 rfl rfl (fun w hs => eqCircuit_true (hs.slOwn (.tail _ (List.Mem.head _))) (hs.slOwn (.tail _ (.tail _ (.tail _ (.tail _ (.tail _ (.tail _ (.tail _ (.tail _ (.tail _ (List.Mem.head _))))))))))))) ?_
        refine Run.q (v := .bool false) rfl (OpQ.y (OpY.pure rfl)) ?_
        refine Run.q (v := .bool false) rfl (OpQ.y (OpY.pure rfl)) ?_
        refine Run.q (v := .bool (circOk cQubits cxGates cnGates)) rfl (OpQ.y (OpY.pure rfl)) ?_
        refine Run.q (v := .bool (circOk cQubits cxGates cnGates)) rfl (OpQ.y (OpY.pure rfl)) ?_
        refine Run.q (v := .bool false) rfl (OpQ.y (OpY.neqBSame Tbool_4 rfl rfl rfl)) ?_
        refine Run.q (v := .bool false) rfl (OpQ.y (OpY.pure rfl)) ?_
        refine Run.done ?_
        refine Run.cond (b := false) rfl (fun h => nomatch h) (fun _ => ?_)
        refine Run.skip ?_
        refine Run.seq ?_
        refine Run.region ?_
        refine Run.q (v := .int .i64 1) rfl (OpQ.y (OpY.pure rfl)) ?_
        refine Run.done ?_
        refine Run.seq ?_
        refine Run.region ?_
        refine Run.q (v := .agg #[.int .i64 (foN cQubits cxGates cnGates), .slice A_u41 (foM cQubits cxGates cnGates) c_u41]) rfl (OpQ.y (OpY.loadN (cs := [.int .i64 (foN cQubits cxGates cnGates), .slice A_u41 (foM cQubits cxGates cnGates) c_u41]) Tagg_30 rfl (Cells.blk (.tail _ (.tail _ (.tail _ (.tail _ (.tail _ (.tail _ (List.Mem.head _))))))) ⟨rfl, rfl, trivial⟩))) ?_
        refine Run.q (v := .int .i64 1) rfl (OpQ.y (OpY.pure rfl)) ?_
        refine Run.q (v := .int .i64 (1 + ((foM cQubits cxGates cnGates : Nat) : Int) * 3)) rfl (OpQ.call (vs := [.agg #[.int .i64 (foN cQubits cxGates cnGates), .slice A_u41 (foM cQubits cxGates cnGates) c_u41], .int .i64 1]) (caps := []) Tcall_13 rfl rfl (fun w hs => heldCircuit_true (hs.slOwn (.tail _ (.tail _ (.tail _ (List.Mem.head _))))) (by omega) (by omega) rfl)) ?_
        refine Run.q (v := .int .i64 (1 + ((foM cQubits cxGates cnGates : Nat) : Int) * 3)) rfl (OpQ.y (OpY.pure rfl)) ?_
        refine Run.done ?_
        refine Run.seq ?_
        refine Run.seq ?_
        refine Run.region ?_
        refine Run.q (v := .int .i64 (1 + ((foM cQubits cxGates cnGates : Nat) : Int) * 3)) rfl (OpQ.y (OpY.pure rfl)) ?_
        refine Run.q (v := .bool (decide ((1 + ((foM cQubits cxGates cnGates : Nat) : Int) * 3) < 0))) rfl (OpQ.y (OpY.pure rfl)) ?_
        refine Run.done ?_
        refine Run.cond (b := decide ((1 + ((foM cQubits cxGates cnGates : Nat) : Int) * 3) < 0)) rfl (fun h92 => ?_) (fun h92 => ?_)
        · have p92 := h92; try simp only [decide_eq_true_eq, decide_eq_false_iff_not, beq_iff_eq, bne_iff_ne, beq_eq_false_iff_ne, ne_eq, gt_iff_lt, ge_iff_le, Int.not_lt, Int.not_le, bne_eq_false_iff_eq, Bool.not_eq_true', Bool.not_eq_false', Bool.and_eq_true, Bool.and_eq_false_iff, Bool.or_eq_true, Bool.or_eq_false_iff, Decidable.not_not, List.cons.injEq, and_true] at p92
          exact absurd h92 (by simp <;> omega) --DONE
        · have p92 := h92; try simp only [decide_eq_true_eq, decide_eq_false_iff_not, beq_iff_eq, bne_iff_ne, beq_eq_false_iff_ne, ne_eq, gt_iff_lt, ge_iff_le, Int.not_lt, Int.not_le, bne_eq_false_iff_eq, Bool.not_eq_true', Bool.not_eq_false', Bool.and_eq_true, Bool.and_eq_false_iff, Bool.or_eq_true, Bool.or_eq_false_iff, Decidable.not_not, List.cons.injEq, and_true] at p92
          refine Run.skip ?_
          refine Run.seq ?_
          refine Run.seq ?_
          refine Run.region ?_
          refine Run.q (v := .int .i64 (1 + ((foM cQubits cxGates cnGates : Nat) : Int) * 3)) rfl (OpQ.y (OpY.pure rfl)) ?_
          refine Run.q (v := .int .i64 (1 + ((foM cQubits cxGates cnGates : Nat) : Int) * 3)) rfl (OpQ.y (OpY.pure rfl)) ?_
          refine Run.q (v := .bool false) rfl (OpQ.y (OpY.neqSame rfl rfl rfl)) ?_
          refine Run.done ?_
          refine Run.cond (b := false) rfl (fun h => nomatch h) (fun _ => ?_)
          refine Run.skip ?_
          refine Run.seq ?_
          refine Run.region ?_
          refine Run.q (v := .bool true) rfl (OpQ.y (OpY.pure rfl)) ?_
          refine Run.done ?_
          refine Run.ret ?_
          refine ⟨.bool true, [], Out.one rfl rfl, (Some'.weak (.nil _)), ?_⟩
          rfl

end Go.Proofs.Ytbepibalnnbmgaa
