/- The walk of the law FnExactDepthOf. -/
import Derived.Test.YtgoaoifnckhdlaaLy
import Derived.Test.YtgoaoifnckhdlaaInts
import Derived.Test.YtgoaoifnckhdlaaProg
set_option linter.unusedSimpArgs false
set_option linter.unusedVariables false
namespace Go.Proofs.Ytgoaoifnckhdlaa
open Go Go.RowKit
namespace L11T
theorem Tagg_68 : aggOf Try.prog 68 = some 2 := by kernel_rfl
theorem Tagg_73 : aggOf Try.prog 73 = some 2 := by kernel_rfl
theorem Tbool_4 : Try.prog.underlying 4 = some .bool := by kernel_rfl
theorem Tcall_46 : callable Try.prog 46 = true := by kernel_rfl
theorem Tcall_48 : callable Try.prog 48 = true := by kernel_rfl
theorem Tcall_50 : callable Try.prog 50 = true := by kernel_rfl
theorem Tcall_51 : callable Try.prog 51 = true := by kernel_rfl
theorem Tcall_52 : callable Try.prog 52 = true := by kernel_rfl
theorem Tsize_73 : (Try.prog.info? 73).map (·.size) = some 2 := by kernel_rfl
theorem Tzero_73 : zeroOf Try.prog 73 = some [.int .i64 0, .slice none 0 0] := by kernel_rfl
end L11T
open L11T
set_option maxHeartbeats 1000000 in
set_option maxRecDepth 20000 in
theorem law_spec {cQubits : Int} {cvGates : Value} {cnGates : Nat} {cxGates : List Int} {w : World} (cwQubits : In64 cQubits) (chGates : Sl w cvGates 3 cnGates (ints cxGates)) (cwGates : ∀ x ∈ cxGates, In64 x) : Calls Try.prog 12 #[.agg #[.int .i64 cQubits, cvGates]] w (Post No w fun v _ => v = .bool true) := by
  refine enter (n := 40) (args := [.agg #[.int .i64 cQubits, cvGates]]) Try.func12 rfl rfl (St.empty _ _) ?_
  refine Run.seq ?_
  refine Run.region ?_
  refine Run.step rfl (OpStep.box (us := [.int .i64 cQubits, cvGates]) rfl fun b1 => ?_)
  refine Run.q (v := .bool false) rfl (OpQ.y (OpY.pure rfl)) ?_
  refine Run.done ?_
  refine Run.seq ?_
  refine Run.region ?_
  refine Run.q (v := .int .i64 1048576) rfl (OpQ.y (OpY.pure rfl)) ?_
  refine Run.done ?_
  refine Run.seq ?_
  refine Run.region ?_
  refine Run.q (v := .agg #[.int .i64 cQubits, cvGates]) rfl (OpQ.y (OpY.loadN (cs := [.int .i64 cQubits, cvGates]) Tagg_68 rfl (Cells.blk (.head _) ⟨rfl, rfl, trivial⟩))) ?_
  refine Run.q (v := .int .i64 1048576) rfl (OpQ.y (OpY.pure rfl)) ?_
  refine Run.q (v := .int .i64 (szN 1048576 [cnGates])) rfl (OpQ.call (vs := [.agg #[.int .i64 cQubits, cvGates], .int .i64 1048576]) (caps := []) Tcall_46 rfl rfl (fun w hs => szCircuit_spec (hs.sl chGates) (by omega) (by omega))) ?_
  refine Run.q (v := .int .i64 (szN 1048576 [cnGates])) rfl (OpQ.y (OpY.pure rfl)) ?_
  refine Run.done ?_
  refine Run.seq ?_
  refine Run.seq ?_
  refine Run.region ?_
  refine Run.q (v := .int .i64 (szN 1048576 [cnGates])) rfl (OpQ.y (OpY.pure rfl)) ?_
  refine Run.q (v := .bool (decide ((szN 1048576 [cnGates]) < 0))) rfl (OpQ.y (OpY.pure rfl)) ?_
  refine Run.done ?_
  refine Run.cond (b := decide ((szN 1048576 [cnGates]) < 0)) rfl (fun h13 => ?_) (fun h13 => ?_)
  · have p13 := h13; try simp only [decide_eq_true_eq, decide_eq_false_iff_not, beq_iff_eq, bne_iff_ne, beq_eq_false_iff_ne, ne_eq, gt_iff_lt, ge_iff_le, Int.not_lt, Int.not_le, bne_eq_false_iff_eq, Bool.not_eq_true', Bool.not_eq_false', Bool.and_eq_true, Bool.and_eq_false_iff, Bool.or_eq_true, Bool.or_eq_false_iff, Decidable.not_not, List.cons.injEq, and_true] at p13
    refine Run.seq ?_
    refine Run.region ?_
    refine Run.q (v := .bool true) rfl (OpQ.y (OpY.pure rfl)) ?_
    refine Run.done ?_
    refine Run.ret ?_
    refine ⟨.bool true, [], Out.one rfl rfl, (Some'.weak (.nil _)), ?_⟩
    rfl
  · have p13 := h13; try simp only [decide_eq_true_eq, decide_eq_false_iff_not, beq_iff_eq, bne_iff_ne, beq_eq_false_iff_ne, ne_eq, gt_iff_lt, ge_iff_le, Int.not_lt, Int.not_le, bne_eq_false_iff_eq, Bool.not_eq_true', Bool.not_eq_false', Bool.and_eq_true, Bool.and_eq_false_iff, Bool.or_eq_true, Bool.or_eq_false_iff, Decidable.not_not, List.cons.injEq, and_true] at p13
    have hz13 := szN_bound (ns := [cnGates]) (l := 1048576) p13
    have hz13cnGates := hz13 cnGates (by simp)
    refine Run.skip ?_
    refine Run.seq ?_
    refine Run.region ?_
    refine Run.q (v := .agg #[.int .i64 cQubits, cvGates]) rfl (OpQ.y (OpY.loadN (cs := [.int .i64 cQubits, cvGates]) Tagg_68 rfl (Cells.blk (.head _) ⟨rfl, rfl, trivial⟩))) ?_
    refine Run.step rfl (OpStep.call (vs := [.agg #[.int .i64 cQubits, cvGates]]) (caps := []) Tcall_48 rfl rfl (fun w hs => toCircuit_spec (hs.sl chGates) (by omega)) ?_)
    rintro _ _ ⟨u1, rfl, rfl⟩
    show Run _ _ (putF _ _ _ (.agg #[.int .i64 cQubits, u1])) [.own u1 94 3 cnGates (ints cxGates), .blk b1 68 [.int .i64 cQubits, cvGates]]
    refine Run.q (v := .tuple #[.int .i64 (if circOk cQubits cxGates cnGates then mxD incL cxGates cnGates else 0), .bool (circOk cQubits cxGates cnGates)]) rfl (OpQ.call (vs := [.agg #[.int .i64 cQubits, u1]]) (caps := []) Tcall_51 rfl rfl (fun w hs => sDepthOf_spec (hs.slOwn (.head _)))) ?_
    refine Run.q (v := .tuple #[.int .i64 (if circOk cQubits cxGates cnGates then mxD incL cxGates cnGates else 0), .bool (circOk cQubits cxGates cnGates)]) rfl (OpQ.y (OpY.pure rfl)) ?_
    refine Run.q (v := .int .i64 (if circOk cQubits cxGates cnGates then mxD incL cxGates cnGates else 0)) rfl (OpQ.y (OpY.pure rfl)) ?_
    refine Run.q (v := .bool (circOk cQubits cxGates cnGates)) rfl (OpQ.y (OpY.pure rfl)) ?_
    refine Run.q (v := .int .i64 (if circOk cQubits cxGates cnGates then mxD incL cxGates cnGates else 0)) rfl (OpQ.y (OpY.pure rfl)) ?_
    refine Run.q (v := .bool (circOk cQubits cxGates cnGates)) rfl (OpQ.y (OpY.pure rfl)) ?_
    refine Run.done ?_
    refine Run.seq ?_
    refine Run.region ?_
    refine Run.q (v := .agg #[.int .i64 cQubits, cvGates]) rfl (OpQ.y (OpY.loadN (cs := [.int .i64 cQubits, cvGates]) Tagg_68 rfl (Cells.blk (.tail _ (List.Mem.head _)) ⟨rfl, rfl, trivial⟩))) ?_
    refine Run.step rfl (OpStep.call (vs := [.agg #[.int .i64 cQubits, cvGates]]) (caps := []) Tcall_48 rfl rfl (fun w hs => toCircuit_spec (hs.sl chGates) (by omega)) ?_)
    rintro _ _ ⟨u2, rfl, rfl⟩
    show Run _ _ (putF _ _ _ (.agg #[.int .i64 cQubits, u2])) [.own u2 94 3 cnGates (ints cxGates), .own u1 94 3 cnGates (ints cxGates), .blk b1 68 [.int .i64 cQubits, cvGates]]
    refine Run.step rfl (OpStep.alloc (zs := [.int .i64 0, .slice none 0 0]) Tzero_73 fun b2 => ?_)
    refine Run.formOwn (.tail _ (List.Mem.head _)) (fun A_u21 c_u21 hv hcapc_u21 hmaxc_u21 => ?_) (fun _ _ _ => ⟨nofun, nofun, nofun⟩)
    subst hv
    refine Run.step rfl (OpStep.storeAll (us := [.int .i64 cQubits, .slice A_u21 cnGates c_u21]) Tsize_73 rfl rfl rfl (.here _) rfl ?_)
    refine Run.done ?_
    refine Run.seq ?_
    refine Run.region ?_
    refine Run.q (v := .agg #[.int .i64 cQubits, .slice A_u21 cnGates c_u21]) rfl (OpQ.y (OpY.loadN (cs := [.int .i64 cQubits, .slice A_u21 cnGates c_u21]) Tagg_73 rfl (Cells.blk (.head _) ⟨rfl, rfl, trivial⟩))) ?_
    refine Run.q (v := .tuple #[.int .i64 (if circOk cQubits cxGates cnGates then mxD incL cxGates cnGates else 0), .bool (circOk cQubits cxGates cnGates)]) rfl (OpQ.call (vs := [.agg #[.int .i64 cQubits, .slice A_u21 cnGates c_u21]]) (caps := []) Tcall_52 rfl rfl (fun w hs => DepthOf_spec (hs.slOwn (.tail _ (List.Mem.head _))))) ?_
    refine Run.q (v := .tuple #[.int .i64 (if circOk cQubits cxGates cnGates then mxD incL cxGates cnGates else 0), .bool (circOk cQubits cxGates cnGates)]) rfl (OpQ.y (OpY.pure rfl)) ?_
    refine Run.q (v := .int .i64 (if circOk cQubits cxGates cnGates then mxD incL cxGates cnGates else 0)) rfl (OpQ.y (OpY.pure rfl)) ?_
    refine Run.q (v := .bool (circOk cQubits cxGates cnGates)) rfl (OpQ.y (OpY.pure rfl)) ?_
    refine Run.q (v := .int .i64 (if circOk cQubits cxGates cnGates then mxD incL cxGates cnGates else 0)) rfl (OpQ.y (OpY.pure rfl)) ?_
    refine Run.q (v := .bool (circOk cQubits cxGates cnGates)) rfl (OpQ.y (OpY.pure rfl)) ?_
    refine Run.done ?_
    refine Run.seq ?_
    refine Run.seq ?_
    refine Run.region ?_
    refine Run.q (v := .int .i64 (if circOk cQubits cxGates cnGates then mxD incL cxGates cnGates else 0)) rfl (OpQ.y (OpY.pure rfl)) ?_
    refine Run.q (v := .int .i64 (if circOk cQubits cxGates cnGates then mxD incL cxGates cnGates else 0)) rfl (OpQ.y (OpY.pure rfl)) ?_
    refine Run.q (v := .bool false) rfl (OpQ.y (OpY.neqSame rfl rfl rfl)) ?_
    refine Run.q (v := .bool false) rfl (OpQ.y (OpY.pure rfl)) ?_
    refine Run.q (v := .bool (circOk cQubits cxGates cnGates)) rfl (OpQ.y (OpY.pure rfl)) ?_
    refine Run.q (v := .bool (circOk cQubits cxGates cnGates)) rfl (OpQ.y (OpY.pure rfl)) ?_
    refine Run.q (v := .bool false) rfl (OpQ.y (OpY.neqBSame Tbool_4 rfl rfl rfl)) ?_
    refine Run.q (v := .bool false) rfl (OpQ.y (OpY.pure rfl)) ?_
    refine Run.done ?_
    refine Run.cond (b := false) rfl (fun h => nomatch h) (fun _ => ?_)
    refine Run.skip ?_
    refine Run.seq ?_
    refine Run.seq ?_
    refine Run.held (by kernel_rfl) ?_
    refine DW.take (i := 0) (v := .agg #[.int .i64 cQubits, .slice A_u21 cnGates c_u21]) rfl (by kernel_rfl) (by kernel_rfl) (by kernel_rfl) (fun _ _ _ h => h) (Weak.refl _) rfl (OpY.loadN (cs := [.int .i64 cQubits, .slice A_u21 cnGates c_u21]) Tagg_73 rfl (Cells.blk (.head _) ⟨rfl, rfl, trivial⟩)) ?_
    refine DW.take (i := 1) (v := .agg #[.int .i64 cQubits, cvGates]) rfl (by kernel_rfl) (by kernel_rfl) (by kernel_rfl) (fun _ _ _ h => h) (Weak.refl _) rfl (OpY.loadN (cs := [.int .i64 cQubits, cvGates]) Tagg_68 rfl (Cells.blk (.tail _ (.tail _ (.tail _ (List.Mem.head _)))) ⟨rfl, rfl, trivial⟩)) ?_
    refine DW.step (i := 2) (by kernel_rfl) rfl rfl (OpStep.call (vs := [.agg #[.int .i64 cQubits, cvGates]]) (caps := []) Tcall_48 rfl rfl (fun w hs => toCircuit_spec (hs.sl chGates) (by omega)) ?_)
    rintro _ _ ⟨u3, rfl, rfl⟩
    refine ⟨(Some'.weak (.skip (.take (.take (.take (.take (.nil _))))))), ?_⟩
    refine DW.step (i := 3) (by kernel_rfl) rfl rfl (OpStep.q (v := .bool true) (OpQ.call (vs := [.agg #[.int .i64 cQubits, .slice A_u21 cnGates c_u21], .agg #[.int .i64 cQubits, u3]]) (caps := []) Tcall_50 rfl rfl (fun w hs => eqCircuit_true (hs.slOwn (.tail _ (.tail _ (List.Mem.head _)))) (hs.slOwn (.head _)))) ?_)
    refine ⟨(Some'.weak (.skip (.take (.take (.take (.take (.nil _))))))), ?_⟩
    refine DW.take (i := 4) (v := .bool false) rfl (by kernel_rfl) (by kernel_rfl) (by kernel_rfl) (fun _ _ _ h => h) (Some'.weak (.skip (.take (.take (.take (.take (.nil _))))))) rfl (OpY.pure rfl) ?_
    refine DW.done (by kernel_rfl) ?_
    refine Run.cond (b := false) rfl (fun h => nomatch h) (fun _ => ?_)
    refine Run.skip ?_
    refine Run.seq ?_
    refine Run.region ?_
    refine Run.q (v := .bool true) rfl (OpQ.y (OpY.pure rfl)) ?_
    refine Run.done ?_
    refine Run.ret ?_
    refine ⟨.bool true, [], Out.one rfl rfl, (Some'.weak (.nil _)), ?_⟩
    rfl

end Go.Proofs.Ytgoaoifnckhdlaa
