/- The walk of the law FnExactIsIdentitySum. -/
import Derived.Test.YtbpllboldphhiaaId
import Derived.Test.YtbpllboldphhiaaInts
import Derived.Test.YtbpllboldphhiaaProg
set_option linter.unusedSimpArgs false
set_option linter.unusedVariables false
namespace Go.Proofs.Ytbpllboldphhiaa
open Go Go.RowKit
namespace L20T
theorem Tagg_68 : aggOf Try.prog 68 = some 6 := by kernel_rfl
theorem Tagg_75 : aggOf Try.prog 75 = some 6 := by kernel_rfl
theorem Tbool_4 : Try.prog.underlying 4 = some .bool := by kernel_rfl
theorem Tcall_39 : callable Try.prog 39 = true := by kernel_rfl
theorem Tcall_40 : callable Try.prog 40 = true := by kernel_rfl
theorem Tcall_41 : callable Try.prog 41 = true := by kernel_rfl
theorem Tcall_42 : callable Try.prog 42 = true := by kernel_rfl
theorem Tcall_43 : callable Try.prog 43 = true := by kernel_rfl
theorem Tsize_75 : (Try.prog.info? 75).map (·.size) = some 6 := by kernel_rfl
theorem Tzero_75 : zeroOf Try.prog 75 = some [.int .i64 0, .int .i64 0, .int .i64 0, .int .i64 0, .slice none 0 0, .slice none 0 0] := by kernel_rfl
end L20T
open L20T
set_option maxHeartbeats 1000000 in
set_option maxRecDepth 20000 in
theorem law_spec {pIns : Int} {pVars : Int} {pRoot : Int} {pPhase : Int} {pvTerms : Value} {pnTerms : Nat} {pxTerms : List Int} {pvOut : Value} {pnOut : Nat} {pxOut : List Int} {w : World} (pwIns : In64 pIns) (pwVars : In64 pVars) (pwRoot : In64 pRoot) (pwPhase : In64 pPhase) (phTerms : Sl w pvTerms 2 pnTerms (ints pxTerms)) (pwTerms : ∀ x ∈ pxTerms, In64 x) (phOut : Sl w pvOut 2 pnOut (ints pxOut)) (pwOut : ∀ x ∈ pxOut, In64 x) : Calls Try.prog 8 #[.agg #[.int .i64 pIns, .int .i64 pVars, .int .i64 pRoot, .int .i64 pPhase, pvTerms, pvOut]] w (Post No w fun v _ => v = .bool true) := by
  refine enter (n := 49) (args := [.agg #[.int .i64 pIns, .int .i64 pVars, .int .i64 pRoot, .int .i64 pPhase, pvTerms, pvOut]]) Try.func8 rfl rfl (St.empty _ _) ?_
  refine Run.seq ?_
  refine Run.region ?_
  refine Run.step rfl (OpStep.box (us := [.int .i64 pIns, .int .i64 pVars, .int .i64 pRoot, .int .i64 pPhase, pvTerms, pvOut]) rfl fun b1 => ?_)
  refine Run.q (v := .bool false) rfl (OpQ.y (OpY.pure rfl)) ?_
  refine Run.done ?_
  refine Run.seq ?_
  refine Run.region ?_
  refine Run.q (v := .int .i64 1048576) rfl (OpQ.y (OpY.pure rfl)) ?_
  refine Run.done ?_
  refine Run.seq ?_
  refine Run.region ?_
  refine Run.q (v := .agg #[.int .i64 pIns, .int .i64 pVars, .int .i64 pRoot, .int .i64 pPhase, pvTerms, pvOut]) rfl (OpQ.y (OpY.loadN (cs := [.int .i64 pIns, .int .i64 pVars, .int .i64 pRoot, .int .i64 pPhase, pvTerms, pvOut]) Tagg_68 rfl (Cells.blk (.head _) ⟨rfl, rfl, rfl, rfl, rfl, rfl, trivial⟩))) ?_
  refine Run.q (v := .int .i64 1048576) rfl (OpQ.y (OpY.pure rfl)) ?_
  refine Run.q (v := .int .i64 (szN 1048576 [pnTerms, pnOut])) rfl (OpQ.call (vs := [.agg #[.int .i64 pIns, .int .i64 pVars, .int .i64 pRoot, .int .i64 pPhase, pvTerms, pvOut], .int .i64 1048576]) (caps := []) Tcall_39 rfl rfl (fun w hs => szPathSum_spec (hs.sl phTerms) (hs.sl phOut) (by omega) (by omega))) ?_
  refine Run.q (v := .int .i64 (szN 1048576 [pnTerms, pnOut])) rfl (OpQ.y (OpY.pure rfl)) ?_
  refine Run.done ?_
  refine Run.seq ?_
  refine Run.seq ?_
  refine Run.region ?_
  refine Run.q (v := .int .i64 (szN 1048576 [pnTerms, pnOut])) rfl (OpQ.y (OpY.pure rfl)) ?_
  refine Run.q (v := .bool (decide ((szN 1048576 [pnTerms, pnOut]) < 0))) rfl (OpQ.y (OpY.pure rfl)) ?_
  refine Run.done ?_
  refine Run.cond (b := decide ((szN 1048576 [pnTerms, pnOut]) < 0)) rfl (fun h15 => ?_) (fun h15 => ?_)
  · have p15 := h15; try simp only [decide_eq_true_eq, decide_eq_false_iff_not, beq_iff_eq, bne_iff_ne, beq_eq_false_iff_ne, ne_eq, gt_iff_lt, ge_iff_le, Int.not_lt, Int.not_le, bne_eq_false_iff_eq, Bool.not_eq_true', Bool.not_eq_false', Bool.and_eq_true, Bool.and_eq_false_iff, Bool.or_eq_true, Bool.or_eq_false_iff, Decidable.not_not, List.cons.injEq, and_true] at p15
    refine Run.seq ?_
    refine Run.region ?_
    refine Run.q (v := .bool true) rfl (OpQ.y (OpY.pure rfl)) ?_
    refine Run.done ?_
    refine Run.ret ?_
    refine ⟨.bool true, [], Out.one rfl rfl, (Some'.weak (.nil _)), ?_⟩
    rfl
  · have p15 := h15; try simp only [decide_eq_true_eq, decide_eq_false_iff_not, beq_iff_eq, bne_iff_ne, beq_eq_false_iff_ne, ne_eq, gt_iff_lt, ge_iff_le, Int.not_lt, Int.not_le, bne_eq_false_iff_eq, Bool.not_eq_true', Bool.not_eq_false', Bool.and_eq_true, Bool.and_eq_false_iff, Bool.or_eq_true, Bool.or_eq_false_iff, Decidable.not_not, List.cons.injEq, and_true] at p15
    have hz15 := szN_bound (ns := [pnTerms, pnOut]) (l := 1048576) p15
    have hz15pnTerms := hz15 pnTerms (by simp)
    have hz15pnOut := hz15 pnOut (by simp)
    refine Run.skip ?_
    refine Run.seq ?_
    refine Run.region ?_
    refine Run.q (v := .agg #[.int .i64 pIns, .int .i64 pVars, .int .i64 pRoot, .int .i64 pPhase, pvTerms, pvOut]) rfl (OpQ.y (OpY.loadN (cs := [.int .i64 pIns, .int .i64 pVars, .int .i64 pRoot, .int .i64 pPhase, pvTerms, pvOut]) Tagg_68 rfl (Cells.blk (.head _) ⟨rfl, rfl, rfl, rfl, rfl, rfl, trivial⟩))) ?_
    refine Run.step rfl (OpStep.call (vs := [.agg #[.int .i64 pIns, .int .i64 pVars, .int .i64 pRoot, .int .i64 pPhase, pvTerms, pvOut]]) (caps := []) Tcall_41 rfl rfl (fun w hs => toPathSum_spec (hs.sl phTerms) (hs.sl phOut) (by omega) (by omega)) ?_)
    rintro _ _ ⟨u1, u2, rfl, rfl⟩
    show Run _ _ (putF _ _ _ (.agg #[.int .i64 pIns, .int .i64 pVars, .int .i64 pRoot, .int .i64 pPhase, u1, u2])) [.own u2 149 2 pnOut (ints pxOut), .own u1 190 2 pnTerms (ints pxTerms), .blk b1 68 [.int .i64 pIns, .int .i64 pVars, .int .i64 pRoot, .int .i64 pPhase, pvTerms, pvOut]]
    refine Run.q (v := .tuple #[.int .i64 (idV pIns pVars pRoot pPhase pxTerms pnTerms pxOut pnOut), .bool (psOk pIns pVars pRoot pPhase pxTerms pnTerms pxOut pnOut && idOk pVars pRoot pnTerms pxOut pnOut), .bool (psOk pIns pVars pRoot pPhase pxTerms pnTerms pxOut pnOut)]) rfl (OpQ.call (vs := [.agg #[.int .i64 pIns, .int .i64 pVars, .int .i64 pRoot, .int .i64 pPhase, u1, u2]]) (caps := []) Tcall_40 rfl rfl (fun w hs => sIsIdentitySum_spec (hs.slOwn (.tail _ (List.Mem.head _))) (hs.slOwn (.head _)))) ?_
    refine Run.q (v := .tuple #[.int .i64 (idV pIns pVars pRoot pPhase pxTerms pnTerms pxOut pnOut), .bool (psOk pIns pVars pRoot pPhase pxTerms pnTerms pxOut pnOut && idOk pVars pRoot pnTerms pxOut pnOut), .bool (psOk pIns pVars pRoot pPhase pxTerms pnTerms pxOut pnOut)]) rfl (OpQ.y (OpY.pure rfl)) ?_
    refine Run.q (v := .int .i64 (idV pIns pVars pRoot pPhase pxTerms pnTerms pxOut pnOut)) rfl (OpQ.y (OpY.pure rfl)) ?_
    refine Run.q (v := .bool (psOk pIns pVars pRoot pPhase pxTerms pnTerms pxOut pnOut && idOk pVars pRoot pnTerms pxOut pnOut)) rfl (OpQ.y (OpY.pure rfl)) ?_
    refine Run.q (v := .bool (psOk pIns pVars pRoot pPhase pxTerms pnTerms pxOut pnOut)) rfl (OpQ.y (OpY.pure rfl)) ?_
    refine Run.q (v := .int .i64 (idV pIns pVars pRoot pPhase pxTerms pnTerms pxOut pnOut)) rfl (OpQ.y (OpY.pure rfl)) ?_
    refine Run.q (v := .bool (psOk pIns pVars pRoot pPhase pxTerms pnTerms pxOut pnOut && idOk pVars pRoot pnTerms pxOut pnOut)) rfl (OpQ.y (OpY.pure rfl)) ?_
    refine Run.q (v := .bool (psOk pIns pVars pRoot pPhase pxTerms pnTerms pxOut pnOut)) rfl (OpQ.y (OpY.pure rfl)) ?_
    refine Run.done ?_
    refine Run.seq ?_
    refine Run.region ?_
    refine Run.q (v := .agg #[.int .i64 pIns, .int .i64 pVars, .int .i64 pRoot, .int .i64 pPhase, pvTerms, pvOut]) rfl (OpQ.y (OpY.loadN (cs := [.int .i64 pIns, .int .i64 pVars, .int .i64 pRoot, .int .i64 pPhase, pvTerms, pvOut]) Tagg_68 rfl (Cells.blk (.tail _ (.tail _ (List.Mem.head _))) ⟨rfl, rfl, rfl, rfl, rfl, rfl, trivial⟩))) ?_
    refine Run.step rfl (OpStep.call (vs := [.agg #[.int .i64 pIns, .int .i64 pVars, .int .i64 pRoot, .int .i64 pPhase, pvTerms, pvOut]]) (caps := []) Tcall_41 rfl rfl (fun w hs => toPathSum_spec (hs.sl phTerms) (hs.sl phOut) (by omega) (by omega)) ?_)
    rintro _ _ ⟨u3, u4, rfl, rfl⟩
    show Run _ _ (putF _ _ _ (.agg #[.int .i64 pIns, .int .i64 pVars, .int .i64 pRoot, .int .i64 pPhase, u3, u4])) [.own u4 149 2 pnOut (ints pxOut), .own u3 190 2 pnTerms (ints pxTerms), .own u2 149 2 pnOut (ints pxOut), .own u1 190 2 pnTerms (ints pxTerms), .blk b1 68 [.int .i64 pIns, .int .i64 pVars, .int .i64 pRoot, .int .i64 pPhase, pvTerms, pvOut]]
    refine Run.step rfl (OpStep.alloc (zs := [.int .i64 0, .int .i64 0, .int .i64 0, .int .i64 0, .slice none 0 0, .slice none 0 0]) Tzero_75 fun b2 => ?_)
    refine Run.formOwn (.tail _ (.tail _ (List.Mem.head _))) (fun A_u31 c_u31 hv hcapc_u31 hmaxc_u31 => ?_) (fun _ _ _ => ⟨nofun, nofun, nofun⟩)
    subst hv
    refine Run.formOwn (.tail _ (List.Mem.head _)) (fun A_u41 c_u41 hv hcapc_u41 hmaxc_u41 => ?_) (fun _ _ _ => ⟨nofun, nofun, nofun⟩)
    subst hv
    refine Run.step rfl (OpStep.storeAll (us := [.int .i64 pIns, .int .i64 pVars, .int .i64 pRoot, .int .i64 pPhase, .slice A_u31 pnTerms c_u31, .slice A_u41 pnOut c_u41]) Tsize_75 rfl rfl rfl (.here _) rfl ?_)
    refine Run.done ?_
    refine Run.seq ?_
    refine Run.region ?_
    refine Run.q (v := .agg #[.int .i64 pIns, .int .i64 pVars, .int .i64 pRoot, .int .i64 pPhase, .slice A_u31 pnTerms c_u31, .slice A_u41 pnOut c_u41]) rfl (OpQ.y (OpY.loadN (cs := [.int .i64 pIns, .int .i64 pVars, .int .i64 pRoot, .int .i64 pPhase, .slice A_u31 pnTerms c_u31, .slice A_u41 pnOut c_u41]) Tagg_75 rfl (Cells.blk (.head _) ⟨rfl, rfl, rfl, rfl, rfl, rfl, trivial⟩))) ?_
    refine Run.q (v := .tuple #[.int .i64 (idV pIns pVars pRoot pPhase pxTerms pnTerms pxOut pnOut), .bool (psOk pIns pVars pRoot pPhase pxTerms pnTerms pxOut pnOut && idOk pVars pRoot pnTerms pxOut pnOut), .bool (psOk pIns pVars pRoot pPhase pxTerms pnTerms pxOut pnOut)]) rfl (OpQ.call (vs := [.agg #[.int .i64 pIns, .int .i64 pVars, .int .i64 pRoot, .int .i64 pPhase, .slice A_u31 pnTerms c_u31, .slice A_u41 pnOut c_u41]]) (caps := []) Tcall_42 rfl rfl (fun w hs => IsIdentitySum_spec (hs.slOwn (.tail _ (.tail _ (List.Mem.head _)))) (hs.slOwn (.tail _ (List.Mem.head _))))) ?_
    refine Run.q (v := .tuple #[.int .i64 (idV pIns pVars pRoot pPhase pxTerms pnTerms pxOut pnOut), .bool (psOk pIns pVars pRoot pPhase pxTerms pnTerms pxOut pnOut && idOk pVars pRoot pnTerms pxOut pnOut), .bool (psOk pIns pVars pRoot pPhase pxTerms pnTerms pxOut pnOut)]) rfl (OpQ.y (OpY.pure rfl)) ?_
    refine Run.q (v := .int .i64 (idV pIns pVars pRoot pPhase pxTerms pnTerms pxOut pnOut)) rfl (OpQ.y (OpY.pure rfl)) ?_
    refine Run.q (v := .bool (psOk pIns pVars pRoot pPhase pxTerms pnTerms pxOut pnOut && idOk pVars pRoot pnTerms pxOut pnOut)) rfl (OpQ.y (OpY.pure rfl)) ?_
    refine Run.q (v := .bool (psOk pIns pVars pRoot pPhase pxTerms pnTerms pxOut pnOut)) rfl (OpQ.y (OpY.pure rfl)) ?_
    refine Run.q (v := .int .i64 (idV pIns pVars pRoot pPhase pxTerms pnTerms pxOut pnOut)) rfl (OpQ.y (OpY.pure rfl)) ?_
    refine Run.q (v := .bool (psOk pIns pVars pRoot pPhase pxTerms pnTerms pxOut pnOut && idOk pVars pRoot pnTerms pxOut pnOut)) rfl (OpQ.y (OpY.pure rfl)) ?_
    refine Run.q (v := .bool (psOk pIns pVars pRoot pPhase pxTerms pnTerms pxOut pnOut)) rfl (OpQ.y (OpY.pure rfl)) ?_
    refine Run.done ?_
    refine Run.seq ?_
    refine Run.seq ?_
    refine Run.region ?_
    refine Run.q (v := .int .i64 (idV pIns pVars pRoot pPhase pxTerms pnTerms pxOut pnOut)) rfl (OpQ.y (OpY.pure rfl)) ?_
    refine Run.q (v := .int .i64 (idV pIns pVars pRoot pPhase pxTerms pnTerms pxOut pnOut)) rfl (OpQ.y (OpY.pure rfl)) ?_
    refine Run.q (v := .bool false) rfl (OpQ.y (OpY.neqSame rfl rfl rfl)) ?_
    refine Run.q (v := .bool false) rfl (OpQ.y (OpY.pure rfl)) ?_
    refine Run.q (v := .bool (psOk pIns pVars pRoot pPhase pxTerms pnTerms pxOut pnOut && idOk pVars pRoot pnTerms pxOut pnOut)) rfl (OpQ.y (OpY.pure rfl)) ?_
    refine Run.q (v := .bool (psOk pIns pVars pRoot pPhase pxTerms pnTerms pxOut pnOut && idOk pVars pRoot pnTerms pxOut pnOut)) rfl (OpQ.y (OpY.pure rfl)) ?_
    refine Run.q (v := .bool false) rfl (OpQ.y (OpY.neqBSame Tbool_4 rfl rfl rfl)) ?_
    refine Run.q (v := .bool false) rfl (OpQ.y (OpY.pure rfl)) ?_
    refine Run.q (v := .bool false) rfl (OpQ.y (OpY.pure rfl)) ?_
    refine Run.q (v := .bool (psOk pIns pVars pRoot pPhase pxTerms pnTerms pxOut pnOut)) rfl (OpQ.y (OpY.pure rfl)) ?_
    refine Run.q (v := .bool (psOk pIns pVars pRoot pPhase pxTerms pnTerms pxOut pnOut)) rfl (OpQ.y (OpY.pure rfl)) ?_
    refine Run.q (v := .bool false) rfl (OpQ.y (OpY.neqBSame Tbool_4 rfl rfl rfl)) ?_
    refine Run.q (v := .bool false) rfl (OpQ.y (OpY.pure rfl)) ?_
    refine Run.done ?_
    refine Run.cond (b := false) rfl (fun h => nomatch h) (fun _ => ?_)
    refine Run.skip ?_
    refine Run.seq ?_
    refine Run.seq ?_
    refine Run.held (by kernel_rfl) ?_
    refine DW.take (i := 0) (v := .agg #[.int .i64 pIns, .int .i64 pVars, .int .i64 pRoot, .int .i64 pPhase, .slice A_u31 pnTerms c_u31, .slice A_u41 pnOut c_u41]) rfl (by kernel_rfl) (by kernel_rfl) (by kernel_rfl) (fun _ _ _ h => h) (Weak.refl _) rfl (OpY.loadN (cs := [.int .i64 pIns, .int .i64 pVars, .int .i64 pRoot, .int .i64 pPhase, .slice A_u31 pnTerms c_u31, .slice A_u41 pnOut c_u41]) Tagg_75 rfl (Cells.blk (.head _) ⟨rfl, rfl, rfl, rfl, rfl, rfl, trivial⟩)) ?_
    refine DW.take (i := 1) (v := .agg #[.int .i64 pIns, .int .i64 pVars, .int .i64 pRoot, .int .i64 pPhase, pvTerms, pvOut]) rfl (by kernel_rfl) (by kernel_rfl) (by kernel_rfl) (fun _ _ _ h => h) (Weak.refl _) rfl (OpY.loadN (cs := [.int .i64 pIns, .int .i64 pVars, .int .i64 pRoot, .int .i64 pPhase, pvTerms, pvOut]) Tagg_68 rfl (Cells.blk (.tail _ (.tail _ (.tail _ (.tail _ (.tail _ (List.Mem.head _)))))) ⟨rfl, rfl, rfl, rfl, rfl, rfl, trivial⟩)) ?_
    refine DW.step (i := 2) (by kernel_rfl) rfl rfl (OpStep.call (vs := [.agg #[.int .i64 pIns, .int .i64 pVars, .int .i64 pRoot, .int .i64 pPhase, pvTerms, pvOut]]) (caps := []) Tcall_41 rfl rfl (fun w hs => toPathSum_spec (hs.sl phTerms) (hs.sl phOut) (by omega) (by omega)) ?_)
    rintro _ _ ⟨u5, u6, rfl, rfl⟩
    refine ⟨(Some'.weak (.skip (.skip (.take (.take (.take (.take (.take (.take (.nil _)))))))))), ?_⟩
    refine DW.step (i := 3) (by kernel_rfl) rfl rfl (OpStep.q (v := .bool true) (OpQ.call (vs := [.agg #[.int .i64 pIns, .int .i64 pVars, .int .i64 pRoot, .int .i64 pPhase, .slice A_u31 pnTerms c_u31, .slice A_u41 pnOut c_u41], .agg #[.int .i64 pIns, .int .i64 pVars, .int .i64 pRoot, .int .i64 pPhase, u5, u6]]) (caps := []) Tcall_43 rfl rfl (fun w hs => eqPathSum_true (hs.slOwn (.tail _ (.tail _ (.tail _ (.tail _ (List.Mem.head _)))))) (hs.slOwn (.tail _ (.tail _ (.tail _ (List.Mem.head _))))) (hs.slOwn (.tail _ (List.Mem.head _))) (hs.slOwn (.head _)))) ?_)
    refine ⟨(Some'.weak (.skip (.skip (.take (.take (.take (.take (.take (.take (.nil _)))))))))), ?_⟩
    refine DW.take (i := 4) (v := .bool false) rfl (by kernel_rfl) (by kernel_rfl) (by kernel_rfl) (fun _ _ _ h => h) (Some'.weak (.skip (.skip (.take (.take (.take (.take (.take (.take (.nil _)))))))))) rfl (OpY.pure rfl) ?_
    refine DW.done (by kernel_rfl) ?_
    refine Run.cond (b := false) rfl (fun h => nomatch h) (fun _ => ?_)
    refine Run.skip ?_
    refine Run.seq ?_
    refine Run.region ?_
    refine Run.q (v := .bool true) rfl (OpQ.y (OpY.pure rfl)) ?_
    refine Run.done ?_
    refine Run.ret ?_
    refine ⟨.bool true, [], Out.one rfl rfl, (Some'.weak (.nil _)), ?_⟩
    rfl

end Go.Proofs.Ytbpllboldphhiaa
