/- The walk of the law FnExactShortestLinear. -/
import Derived.Test.YteehfidjofcfmaaSlz
import Derived.Test.YteehfidjofcfmaaLie
import Derived.Test.YteehfidjofcfmaaCi
import Derived.Test.YteehfidjofcfmaaProg
set_option linter.unusedSimpArgs false
set_option linter.unusedVariables false
namespace Go.Proofs.Yteehfidjofcfmaa
open Go Go.RowKit
namespace L30T
theorem Tagg_24 : aggOf Try.prog 24 = some 1 := by kernel_rfl
theorem Tagg_28 : aggOf Try.prog 28 = some 1 := by kernel_rfl
theorem Tagg_38 : aggOf Try.prog 38 = some 2 := by kernel_rfl
theorem Tbool_4 : Try.prog.underlying 4 = some .bool := by kernel_rfl
theorem Tcall_11 : callable Try.prog 11 = true := by kernel_rfl
theorem Tcall_13 : callable Try.prog 13 = true := by kernel_rfl
theorem Tcall_18 : callable Try.prog 18 = true := by kernel_rfl
theorem Tcall_19 : callable Try.prog 19 = true := by kernel_rfl
theorem Tcall_20 : callable Try.prog 20 = true := by kernel_rfl
theorem Tcall_21 : callable Try.prog 21 = true := by kernel_rfl
theorem Tcall_22 : callable Try.prog 22 = true := by kernel_rfl
theorem Tcall_23 : callable Try.prog 23 = true := by kernel_rfl
theorem Tcall_9 : callable Try.prog 9 = true := by kernel_rfl
theorem Tsize_28 : (Try.prog.info? 28).map (·.size) = some 1 := by kernel_rfl
theorem Tsize_38 : (Try.prog.info? 38).map (·.size) = some 2 := by kernel_rfl
theorem Tzero_28 : zeroOf Try.prog 28 = some [.slice none 0 0] := by kernel_rfl
theorem Tzero_38 : zeroOf Try.prog 38 = some [.int .i64 0, .slice none 0 0] := by kernel_rfl
end L30T
open L30T

theorem sl_le {n : Nat} {xs : List Int} (hl : xs.length = n) : (slG n xs).length ≤ 28 := by
  cases hb : slB n xs with
  | true => exact sl_len hl hb
  | false => rw [(sl_bad hb).1]; simp

set_option maxHeartbeats 1000000 in
set_option maxRecDepth 20000 in
theorem law_spec {mvRows : Value} {mnRows : Nat} {mxRows : List Int} {w : World} (mhRows : Sl w mvRows 1 mnRows (ints mxRows)) (mwRows : ∀ x ∈ mxRows, In64 x) : Calls Try.prog 5 #[.agg #[mvRows]] w (Post No w fun v _ => v = .bool true) := by
  have hml0 : mxRows.length = mnRows := by have h := mhRows.len; simpa [ints] using h
  have hsl := sl_le hml0
  refine enter (n := 96) (args := [.agg #[mvRows]]) Try.func5 rfl rfl (St.empty _ _) ?_
  refine Run.seq ?_
  refine Run.region ?_
  refine Run.step rfl (OpStep.box (us := [mvRows]) rfl fun b1 => ?_)
  refine Run.q (v := .bool false) rfl (OpQ.y (OpY.pure rfl)) ?_
  refine Run.done ?_
  refine Run.seq ?_
  refine Run.region ?_
  refine Run.q (v := .int .i64 1048576) rfl (OpQ.y (OpY.pure rfl)) ?_
  refine Run.done ?_
  refine Run.seq ?_
  refine Run.region ?_
  refine Run.q (v := .agg #[mvRows]) rfl (OpQ.y (OpY.loadN (cs := [mvRows]) Tagg_24 rfl (Cells.blk (.head _) ⟨rfl, trivial⟩))) ?_
  refine Run.q (v := .int .i64 1048576) rfl (OpQ.y (OpY.pure rfl)) ?_
  refine Run.q (v := .int .i64 (szN 1048576 [mnRows])) rfl (OpQ.call (vs := [.agg #[mvRows], .int .i64 1048576]) (caps := []) Tcall_9 rfl rfl (fun w hs => szLinear_spec (hs.sl mhRows) (by omega) (by omega))) ?_
  refine Run.q (v := .int .i64 (szN 1048576 [mnRows])) rfl (OpQ.y (OpY.pure rfl)) ?_
  refine Run.done ?_
  refine Run.seq ?_
  refine Run.seq ?_
  refine Run.region ?_
  refine Run.q (v := .int .i64 (szN 1048576 [mnRows])) rfl (OpQ.y (OpY.pure rfl)) ?_
  refine Run.q (v := .bool (decide ((szN 1048576 [mnRows]) < 0))) rfl (OpQ.y (OpY.pure rfl)) ?_
  refine Run.done ?_
  refine Run.cond (b := decide ((szN 1048576 [mnRows]) < 0)) rfl (fun h18 => ?_) (fun h18 => ?_)
  · have p18 := h18; try simp only [decide_eq_true_eq, decide_eq_false_iff_not, beq_iff_eq, bne_iff_ne, beq_eq_false_iff_ne, ne_eq, gt_iff_lt, ge_iff_le, Int.not_lt, Int.not_le, bne_eq_false_iff_eq, Bool.not_eq_true', Bool.not_eq_false', Bool.and_eq_true, Bool.and_eq_false_iff, Bool.or_eq_true, Bool.or_eq_false_iff, Decidable.not_not, List.cons.injEq, and_true] at p18
    refine Run.seq ?_
    refine Run.region ?_
    refine Run.q (v := .bool true) rfl (OpQ.y (OpY.pure rfl)) ?_
    refine Run.done ?_
    refine Run.ret ?_
    refine ⟨.bool true, [], Out.one rfl rfl, (Some'.weak (.nil _)), ?_⟩
    rfl
  · have p18 := h18; try simp only [decide_eq_true_eq, decide_eq_false_iff_not, beq_iff_eq, bne_iff_ne, beq_eq_false_iff_ne, ne_eq, gt_iff_lt, ge_iff_le, Int.not_lt, Int.not_le, bne_eq_false_iff_eq, Bool.not_eq_true', Bool.not_eq_false', Bool.and_eq_true, Bool.and_eq_false_iff, Bool.or_eq_true, Bool.or_eq_false_iff, Decidable.not_not, List.cons.injEq, and_true] at p18
    have hz18 := szN_bound (ns := [mnRows]) (l := 1048576) p18
    have hz18mnRows := hz18 mnRows (by simp)
    refine Run.skip ?_
    refine Run.seq ?_
    refine Run.region ?_
    refine Run.q (v := .agg #[mvRows]) rfl (OpQ.y (OpY.loadN (cs := [mvRows]) Tagg_24 rfl (Cells.blk (.head _) ⟨rfl, trivial⟩))) ?_
    refine Run.step rfl (OpStep.call (vs := [.agg #[mvRows]]) (caps := []) Tcall_11 rfl rfl (fun w hs => toLinear_spec (hs.sl mhRows) (by omega)) ?_)
    rintro _ _ ⟨u1, rfl, rfl⟩
    show Run _ _ (putF _ _ _ (.agg #[u1])) [.own u1 3 1 mnRows (ints mxRows), .blk b1 24 [mvRows]]
    refine Run.step rfl (OpStep.call (vs := [.agg #[u1]]) (caps := []) Tcall_18 rfl rfl (fun w hs => sShortestLinear_spec (hs.slOwn (.head _))) ?_)
    rintro _ _ ⟨u2, rfl, rfl⟩
    show Run _ _ (putF _ _ _ (.tuple #[.agg #[.int .i64 (slN mnRows mxRows), u2], .bool (slB mnRows mxRows)])) [.own u2 71 3 ((slG mnRows mxRows).length) (ints (flCX (dcw mnRows (slG mnRows mxRows)))), .own u1 3 1 mnRows (ints mxRows), .blk b1 24 [mvRows]]
    refine Run.q (v := .tuple #[.agg #[.int .i64 (slN mnRows mxRows), u2], .bool (slB mnRows mxRows)]) rfl (OpQ.y (OpY.pure rfl)) ?_
    refine Run.q (v := .agg #[.int .i64 (slN mnRows mxRows), u2]) rfl (OpQ.y (OpY.pure rfl)) ?_
    refine Run.q (v := .bool (slB mnRows mxRows)) rfl (OpQ.y (OpY.pure rfl)) ?_
    refine Run.step rfl (OpStep.alloc (zs := [.int .i64 0, .slice none 0 0]) Tzero_38 fun b2 => ?_)
    refine Run.formOwn (.tail _ (List.Mem.head _)) (fun A_u21 c_u21 hv hcapc_u21 hmaxc_u21 => ?_) (fun _ _ _ => ⟨nofun, nofun, nofun⟩)
    subst hv
    refine Run.step rfl (OpStep.storeAll (us := [.int .i64 (slN mnRows mxRows), .slice A_u21 ((slG mnRows mxRows).length) c_u21]) Tsize_38 rfl rfl rfl (.here _) rfl ?_)
    refine Run.q (v := .bool (slB mnRows mxRows)) rfl (OpQ.y (OpY.pure rfl)) ?_
    refine Run.done ?_
    refine Run.seq ?_
    refine Run.region ?_
    refine Run.q (v := .agg #[mvRows]) rfl (OpQ.y (OpY.loadN (cs := [mvRows]) Tagg_24 rfl (Cells.blk (.tail _ (.tail _ (.tail _ (List.Mem.head _)))) ⟨rfl, trivial⟩))) ?_
    refine Run.step rfl (OpStep.call (vs := [.agg #[mvRows]]) (caps := []) Tcall_11 rfl rfl (fun w hs => toLinear_spec (hs.sl mhRows) (by omega)) ?_)
    rintro _ _ ⟨u3, rfl, rfl⟩
    show Run _ _ (putF _ _ _ (.agg #[u3])) [.own u3 3 1 mnRows (ints mxRows), .blk b2 38 [.int .i64 (slN mnRows mxRows), .slice A_u21 ((slG mnRows mxRows).length) c_u21], .own (.slice A_u21 ((slG mnRows mxRows).length) c_u21) 71 3 ((slG mnRows mxRows).length) (ints (flCX (dcw mnRows (slG mnRows mxRows)))), .own u1 3 1 mnRows (ints mxRows), .blk b1 24 [mvRows]]
    refine Run.step rfl (OpStep.alloc (zs := [.slice none 0 0]) Tzero_28 fun b3 => ?_)
    refine Run.formOwn (.tail _ (List.Mem.head _)) (fun A_u31 c_u31 hv hcapc_u31 hmaxc_u31 => ?_) (fun _ _ _ => ⟨nofun, nofun, nofun⟩)
    subst hv
    refine Run.step rfl (OpStep.storeAll (us := [.slice A_u31 mnRows c_u31]) Tsize_28 rfl rfl rfl (.here _) rfl ?_)
    refine Run.done ?_
    refine Run.seq ?_
    refine Run.region ?_
    refine Run.q (v := .agg #[.slice A_u31 mnRows c_u31]) rfl (OpQ.y (OpY.loadN (cs := [.slice A_u31 mnRows c_u31]) Tagg_28 rfl (Cells.blk (.head _) ⟨rfl, trivial⟩))) ?_
    refine Run.step rfl (OpStep.call (vs := [.agg #[.slice A_u31 mnRows c_u31]]) (caps := []) Tcall_19 rfl rfl (fun w hs => ShortestLinear_spec (hs.slOwn (.tail _ (List.Mem.head _)))) ?_)
    rintro _ _ ⟨u4, rfl, rfl⟩
    show Run _ _ (putF _ _ _ (.tuple #[.agg #[.int .i64 (slN mnRows mxRows), u4], .bool (slB mnRows mxRows)])) [.own u4 71 3 ((slG mnRows mxRows).length) (ints (flCX (dcw mnRows (slG mnRows mxRows)))), .blk b3 28 [.slice A_u31 mnRows c_u31], .own (.slice A_u31 mnRows c_u31) 3 1 mnRows (ints mxRows), .blk b2 38 [.int .i64 (slN mnRows mxRows), .slice A_u21 ((slG mnRows mxRows).length) c_u21], .own (.slice A_u21 ((slG mnRows mxRows).length) c_u21) 71 3 ((slG mnRows mxRows).length) (ints (flCX (dcw mnRows (slG mnRows mxRows)))), .own u1 3 1 mnRows (ints mxRows), .blk b1 24 [mvRows]]
    refine Run.q (v := .tuple #[.agg #[.int .i64 (slN mnRows mxRows), u4], .bool (slB mnRows mxRows)]) rfl (OpQ.y (OpY.pure rfl)) ?_
    refine Run.q (v := .agg #[.int .i64 (slN mnRows mxRows), u4]) rfl (OpQ.y (OpY.pure rfl)) ?_
    refine Run.q (v := .bool (slB mnRows mxRows)) rfl (OpQ.y (OpY.pure rfl)) ?_
    refine Run.step rfl (OpStep.alloc (zs := [.int .i64 0, .slice none 0 0]) Tzero_38 fun b4 => ?_)
    refine Run.formOwn (.tail _ (List.Mem.head _)) (fun A_u41 c_u41 hv hcapc_u41 hmaxc_u41 => ?_) (fun _ _ _ => ⟨nofun, nofun, nofun⟩)
    subst hv
    refine Run.step rfl (OpStep.storeAll (us := [.int .i64 (slN mnRows mxRows), .slice A_u41 ((slG mnRows mxRows).length) c_u41]) Tsize_38 rfl rfl rfl (.here _) rfl ?_)
    refine Run.q (v := .bool (slB mnRows mxRows)) rfl (OpQ.y (OpY.pure rfl)) ?_
    refine Run.done ?_
    refine Run.seq ?_
    refine Run.seq ?_
    refine Run.region ?_
    refine Run.q (v := .agg #[.int .i64 (slN mnRows mxRows), .slice A_u41 ((slG mnRows mxRows).length) c_u41]) rfl (OpQ.y (OpY.loadN (cs := [.int .i64 (slN mnRows mxRows), .slice A_u41 ((slG mnRows mxRows).length) c_u41]) Tagg_38 rfl (Cells.blk (.head _) ⟨rfl, rfl, trivial⟩))) ?_
    refine Run.q (v := .agg #[.int .i64 (slN mnRows mxRows), .slice A_u21 ((slG mnRows mxRows).length) c_u21]) rfl (OpQ.y (OpY.loadN (cs := [.int .i64 (slN mnRows mxRows), .slice A_u21 ((slG mnRows mxRows).length) c_u21]) Tagg_38 rfl (Cells.blk (.tail _ (.tail _ (.tail _ (.tail _ (List.Mem.head _))))) ⟨rfl, rfl, trivial⟩))) ?_
    refine Run.q (v := .bool true) rfl (OpQ.call (vs := [.agg #[.int .i64 (slN mnRows mxRows), .slice A_u41 ((slG mnRows mxRows).length) c_u41], .agg #[.int .i64 (slN mnRows mxRows), .slice A_u21 ((slG mnRows mxRows).length) c_u21]]) (caps := []) Tcall_20 rfl rfl (fun w hs => eqCircuit_true (hs.slOwn (.tail _ (List.Mem.head _))) (hs.slOwn (.tail _ (.tail _ (.tail _ (.tail _ (.tail _ (List.Mem.head _))))))))) ?_
    refine Run.q (v := .bool false) rfl (OpQ.y (OpY.pure rfl)) ?_
    refine Run.q (v := .bool false) rfl (OpQ.y (OpY.pure rfl)) ?_
    refine Run.q (v := .bool (slB mnRows mxRows)) rfl (OpQ.y (OpY.pure rfl)) ?_
    refine Run.q (v := .bool (slB mnRows mxRows)) rfl (OpQ.y (OpY.pure rfl)) ?_
    refine Run.q (v := .bool false) rfl (OpQ.y (OpY.neqBSame Tbool_4 rfl rfl rfl)) ?_
    refine Run.q (v := .bool false) rfl (OpQ.y (OpY.pure rfl)) ?_
    refine Run.done ?_
    refine Run.cond (b := false) rfl (fun h => nomatch h) (fun _ => ?_)
    refine Run.skip ?_
    refine Run.seq ?_
    refine Run.seq ?_
    refine Run.held (by kernel_rfl) ?_
    refine DW.take (i := 0) (v := .agg #[.slice A_u31 mnRows c_u31]) rfl (by kernel_rfl) (by kernel_rfl) (by kernel_rfl) (fun _ _ _ h => h) (Weak.refl _) rfl (OpY.loadN (cs := [.slice A_u31 mnRows c_u31]) Tagg_28 rfl (Cells.blk (.tail _ (.tail _ (List.Mem.head _))) ⟨rfl, trivial⟩)) ?_
    refine DW.take (i := 1) (v := .agg #[mvRows]) rfl (by kernel_rfl) (by kernel_rfl) (by kernel_rfl) (fun _ _ _ h => h) (Weak.refl _) rfl (OpY.loadN (cs := [mvRows]) Tagg_24 rfl (Cells.blk (.tail _ (.tail _ (.tail _ (.tail _ (.tail _ (.tail _ (.tail _ (List.Mem.head _)))))))) ⟨rfl, trivial⟩)) ?_
    refine DW.step (i := 2) (by kernel_rfl) rfl rfl (OpStep.call (vs := [.agg #[mvRows]]) (caps := []) Tcall_11 rfl rfl (fun w hs => toLinear_spec (hs.sl mhRows) (by omega)) ?_)
    rintro _ _ ⟨u5, rfl, rfl⟩
    refine ⟨(Some'.weak (.skip (.take (.take (.take (.take (.take (.take (.take (.take (.nil _))))))))))), ?_⟩
    refine DW.step (i := 3) (by kernel_rfl) rfl rfl (OpStep.q (v := .bool true) (OpQ.call (vs := [.agg #[.slice A_u31 mnRows c_u31], .agg #[u5]]) (caps := []) Tcall_13 rfl rfl (fun w hs => eqLinear_true (hs.slOwn (.tail _ (.tail _ (.tail _ (.tail _ (List.Mem.head _)))))) (hs.slOwn (.head _)))) ?_)
    refine ⟨(Some'.weak (.skip (.take (.take (.take (.take (.take (.take (.take (.take (.nil _))))))))))), ?_⟩
    refine DW.take (i := 4) (v := .bool false) rfl (by kernel_rfl) (by kernel_rfl) (by kernel_rfl) (fun _ _ _ h => h) (Some'.weak (.skip (.take (.take (.take (.take (.take (.take (.take (.take (.nil _))))))))))) rfl (OpY.pure rfl) ?_
    refine DW.done (by kernel_rfl) ?_
    refine Run.cond (b := false) rfl (fun h => nomatch h) (fun _ => ?_)
    refine Run.skip ?_
    refine Run.seq ?_
    refine Run.region ?_
    refine Run.q (v := .int .i64 1) rfl (OpQ.y (OpY.pure rfl)) ?_
    refine Run.done ?_
    refine Run.seq ?_
    refine Run.region ?_
    refine Run.q (v := .agg #[.slice A_u31 mnRows c_u31]) rfl (OpQ.y (OpY.loadN (cs := [.slice A_u31 mnRows c_u31]) Tagg_28 rfl (Cells.blk (.tail _ (.tail _ (.tail _ (List.Mem.head _)))) ⟨rfl, trivial⟩))) ?_
    refine Run.q (v := .int .i64 1) rfl (OpQ.y (OpY.pure rfl)) ?_
    refine Run.step rfl (OpStep.callM (H1 := [.own (.slice A_u31 mnRows c_u31) 3 1 mnRows (ints mxRows)]) (H2 := [.own u5 3 1 mnRows (ints mxRows), .blk b4 38 [.int .i64 (slN mnRows mxRows), .slice A_u41 ((slG mnRows mxRows).length) c_u41], .own (.slice A_u41 ((slG mnRows mxRows).length) c_u41) 71 3 ((slG mnRows mxRows).length) (ints (flCX (dcw mnRows (slG mnRows mxRows)))), .blk b3 28 [.slice A_u31 mnRows c_u31], .blk b2 38 [.int .i64 (slN mnRows mxRows), .slice A_u21 ((slG mnRows mxRows).length) c_u21], .own (.slice A_u21 ((slG mnRows mxRows).length) c_u21) 71 3 ((slG mnRows mxRows).length) (ints (flCX (dcw mnRows (slG mnRows mxRows)))), .own u1 3 1 mnRows (ints mxRows), .blk b1 24 [mvRows]]) (vs := [.agg #[.slice A_u31 mnRows c_u31], .int .i64 1]) (caps := []) Tcall_21 rfl rfl (Weak.front [.own u5 3 1 mnRows (ints mxRows), .blk b4 38 [.int .i64 (slN mnRows mxRows), .slice A_u41 ((slG mnRows mxRows).length) c_u41], .own (.slice A_u41 ((slG mnRows mxRows).length) c_u41) 71 3 ((slG mnRows mxRows).length) (ints (flCX (dcw mnRows (slG mnRows mxRows)))), .blk b3 28 [.slice A_u31 mnRows c_u31]] (.own (.slice A_u31 mnRows c_u31) 3 1 mnRows (ints mxRows)) [.blk b2 38 [.int .i64 (slN mnRows mxRows), .slice A_u21 ((slG mnRows mxRows).length) c_u21], .own (.slice A_u21 ((slG mnRows mxRows).length) c_u21) 71 3 ((slG mnRows mxRows).length) (ints (flCX (dcw mnRows (slG mnRows mxRows)))), .own u1 3 1 mnRows (ints mxRows), .blk b1 24 [mvRows]]) (fun w hs => markLinear_spec (hs.sub (List.sublist_append_left _ _)).self (by omega) (by omega)) ?_)
    rintro _ _ ⟨rfl, rfl⟩
    show Run _ _ (putF _ _ _ (.int .i64 (1 + ((mnRows : Nat) : Int) * 1))) [.own (.slice A_u31 mnRows c_u31) 3 1 mnRows (ints (mks 1 (mnRows * 1))), .own u5 3 1 mnRows (ints mxRows), .blk b4 38 [.int .i64 (slN mnRows mxRows), .slice A_u41 ((slG mnRows mxRows).length) c_u41], .own (.slice A_u41 ((slG mnRows mxRows).length) c_u41) 71 3 ((slG mnRows mxRows).length) (ints (flCX (dcw mnRows (slG mnRows mxRows)))), .blk b3 28 [.slice A_u31 mnRows c_u31], .blk b2 38 [.int .i64 (slN mnRows mxRows), .slice A_u21 ((slG mnRows mxRows).length) c_u21], .own (.slice A_u21 ((slG mnRows mxRows).length) c_u21) 71 3 ((slG mnRows mxRows).length) (ints (flCX (dcw mnRows (slG mnRows mxRows)))), .own u1 3 1 mnRows (ints mxRows), .blk b1 24 [mvRows]]
    refine Run.q (v := .int .i64 (1 + ((mnRows : Nat) : Int) * 1)) rfl (OpQ.y (OpY.pure rfl)) ?_
    refine Run.done ?_
    refine Run.seq ?_
    refine Run.seq ?_
    refine Run.region ?_
    refine Run.q (v := .int .i64 (1 + ((mnRows : Nat) : Int) * 1)) rfl (OpQ.y (OpY.pure rfl)) ?_
    refine Run.q (v := .bool (decide ((1 + ((mnRows : Nat) : Int) * 1) < 0))) rfl (OpQ.y (OpY.pure rfl)) ?_
    rcases Bool.eq_false_or_eq_true (decide ((1 + ((mnRows : Nat) : Int) * 1) < 0)) with h51 | h51
    · exact absurd h51 (by simp <;> omega) --DONE
    · refine Run.q (v := .bool false) rfl (OpQ.y (OpY.moveB rfl h51)) ?_
      have p51 := h51; try simp only [decide_eq_true_eq, decide_eq_false_iff_not, beq_iff_eq, bne_iff_ne, beq_eq_false_iff_ne, ne_eq, gt_iff_lt, ge_iff_le, Int.not_lt, Int.not_le, bne_eq_false_iff_eq, Bool.not_eq_true', Bool.not_eq_false', Bool.and_eq_true, Bool.and_eq_false_iff, Bool.or_eq_true, Bool.or_eq_false_iff, Decidable.not_not, List.cons.injEq, and_true] at p51
      refine Run.q (v := .agg #[.int .i64 (slN mnRows mxRows), .slice A_u41 ((slG mnRows mxRows).length) c_u41]) rfl (OpQ.y (OpY.loadN (cs := [.int .i64 (slN mnRows mxRows), .slice A_u41 ((slG mnRows mxRows).length) c_u41]) Tagg_38 rfl (Cells.blk (.tail _ (.tail _ (List.Mem.head _))) ⟨rfl, rfl, trivial⟩))) ?_
      refine Run.q (v := .agg #[.int .i64 (slN mnRows mxRows), .slice A_u21 ((slG mnRows mxRows).length) c_u21]) rfl (OpQ.y (OpY.loadN (cs := [.int .i64 (slN mnRows mxRows), .slice A_u21 ((slG mnRows mxRows).length) c_u21]) Tagg_38 rfl (Cells.blk (.tail _ (.tail _ (.tail _ (.tail _ (.tail _ (List.Mem.head _)))))) ⟨rfl, rfl, trivial⟩))) ?_
      refine Run.q (v := .bool true) rfl (OpQ.call (vs := [.agg #[.int .i64 (slN mnRows mxRows), .slice A_u41 ((slG mnRows mxRows).length) c_u41], .agg #[.int .i64 (slN mnRows mxRows), .slice A_u21 ((slG mnRows mxRows).length) c_u21]]) (caps := []) Tcall_20 rfl rfl (fun w hs => eqCircuit_true (hs.slOwn (.tail _ (.tail _ (.tail _ (List.Mem.head _))))) (hs.slOwn (.tail _ (.tail _ (.tail _ (.tail _ (.tail _ (.tail _ (List.Mem.head _)))))))))) ?_
      refine Run.q (v := .bool false) rfl (OpQ.y (OpY.pure rfl)) ?_
      refine Run.q (v := .bool false) rfl (OpQ.y (OpY.pure rfl)) ?_
      refine Run.q (v := .bool false) rfl (OpQ.y (OpY.pure rfl)) ?_
      refine Run.q (v := .bool (slB mnRows mxRows)) rfl (OpQ.y (OpY.pure rfl)) ?_
      refine Run.q (v := .bool (slB mnRows mxRows)) rfl (OpQ.y (OpY.pure rfl)) ?_
      refine Run.q (v := .bool false) rfl (OpQ.y (OpY.neqBSame Tbool_4 rfl rfl rfl)) ?_
      refine Run.q (v := .bool false) rfl (OpQ.y (OpY.pure rfl)) ?_
      refine Run.done ?_
      refine Run.cond (b := false) rfl (fun h => nomatch h) (fun _ => ?_)
      refine Run.skip ?_
      refine Run.seq ?_
      refine Run.region ?_
      refine Run.q (v := .int .i64 1) rfl (OpQ.y (OpY.pure rfl)) ?_
      refine Run.done ?_
      refine Run.seq ?_
      refine Run.region ?_
      refine Run.q (v := .agg #[.int .i64 (slN mnRows mxRows), .slice A_u41 ((slG mnRows mxRows).length) c_u41]) rfl (OpQ.y (OpY.loadN (cs := [.int .i64 (slN mnRows mxRows), .slice A_u41 ((slG mnRows mxRows).length) c_u41]) Tagg_38 rfl (Cells.blk (.tail _ (.tail _ (List.Mem.head _))) ⟨rfl, rfl, trivial⟩))) ?_
      refine Run.q (v := .int .i64 1) rfl (OpQ.y (OpY.pure rfl)) ?_
      refine Run.step rfl (OpStep.callM (H1 := [.own (.slice A_u41 ((slG mnRows mxRows).length) c_u41) 71 3 ((slG mnRows mxRows).length) (ints (flCX (dcw mnRows (slG mnRows mxRows))))]) (H2 := [.own (.slice A_u31 mnRows c_u31) 3 1 mnRows (ints (mks 1 (mnRows * 1))), .own u5 3 1 mnRows (ints mxRows), .blk b4 38 [.int .i64 (slN mnRows mxRows), .slice A_u41 ((slG mnRows mxRows).length) c_u41], .blk b3 28 [.slice A_u31 mnRows c_u31], .blk b2 38 [.int .i64 (slN mnRows mxRows), .slice A_u21 ((slG mnRows mxRows).length) c_u21], .own (.slice A_u21 ((slG mnRows mxRows).length) c_u21) 71 3 ((slG mnRows mxRows).length) (ints (flCX (dcw mnRows (slG mnRows mxRows)))), .own u1 3 1 mnRows (ints mxRows), .blk b1 24 [mvRows]]) (vs := [.agg #[.int .i64 (slN mnRows mxRows), .slice A_u41 ((slG mnRows mxRows).length) c_u41], .int .i64 1]) (caps := []) Tcall_22 rfl rfl (Weak.front [.own (.slice A_u31 mnRows c_u31) 3 1 mnRows (ints (mks 1 (mnRows * 1))), .own u5 3 1 mnRows (ints mxRows), .blk b4 38 [.int .i64 (slN mnRows mxRows), .slice A_u41 ((slG mnRows mxRows).length) c_u41]] (.own (.slice A_u41 ((slG mnRows mxRows).length) c_u41) 71 3 ((slG mnRows mxRows).length) (ints (flCX (dcw mnRows (slG mnRows mxRows))))) [.blk b3 28 [.slice A_u31 mnRows c_u31], .blk b2 38 [.int .i64 (slN mnRows mxRows), .slice A_u21 ((slG mnRows mxRows).length) c_u21], .own (.slice A_u21 ((slG mnRows mxRows).length) c_u21) 71 3 ((slG mnRows mxRows).length) (ints (flCX (dcw mnRows (slG mnRows mxRows)))), .own u1 3 1 mnRows (ints mxRows), .blk b1 24 [mvRows]]) (fun w hs => markCircuit_spec (hs.sub (List.sublist_append_left _ _)).self (by omega) (by omega)) ?_)
      rintro _ _ ⟨rfl, rfl⟩
      show Run _ _ (putF _ _ _ (.int .i64 (1 + (((slG mnRows mxRows).length : Nat) : Int) * 3))) [.own (.slice A_u41 ((slG mnRows mxRows).length) c_u41) 71 3 ((slG mnRows mxRows).length) (ints (mks 1 (((slG mnRows mxRows).length) * 3))), .own (.slice A_u31 mnRows c_u31) 3 1 mnRows (ints (mks 1 (mnRows * 1))), .own u5 3 1 mnRows (ints mxRows), .blk b4 38 [.int .i64 (slN mnRows mxRows), .slice A_u41 ((slG mnRows mxRows).length) c_u41], .blk b3 28 [.slice A_u31 mnRows c_u31], .blk b2 38 [.int .i64 (slN mnRows mxRows), .slice A_u21 ((slG mnRows mxRows).length) c_u21], .own (.slice A_u21 ((slG mnRows mxRows).length) c_u21) 71 3 ((slG mnRows mxRows).length) (ints (flCX (dcw mnRows (slG mnRows mxRows)))), .own u1 3 1 mnRows (ints mxRows), .blk b1 24 [mvRows]]
      refine Run.q (v := .int .i64 (1 + (((slG mnRows mxRows).length : Nat) : Int) * 3)) rfl (OpQ.y (OpY.pure rfl)) ?_
      refine Run.done ?_
      refine Run.seq ?_
      refine Run.region ?_
      refine Run.q (v := .int .i64 1) rfl (OpQ.y (OpY.pure rfl)) ?_
      refine Run.done ?_
      refine Run.seq ?_
      refine Run.region ?_
      refine Run.q (v := .agg #[.int .i64 (slN mnRows mxRows), .slice A_u41 ((slG mnRows mxRows).length) c_u41]) rfl (OpQ.y (OpY.loadN (cs := [.int .i64 (slN mnRows mxRows), .slice A_u41 ((slG mnRows mxRows).length) c_u41]) Tagg_38 rfl (Cells.blk (.tail _ (.tail _ (.tail _ (List.Mem.head _)))) ⟨rfl, rfl, trivial⟩))) ?_
      refine Run.q (v := .int .i64 1) rfl (OpQ.y (OpY.pure rfl)) ?_
      refine Run.q (v := .int .i64 (1 + (((slG mnRows mxRows).length : Nat) : Int) * 3)) rfl (OpQ.call (vs := [.agg #[.int .i64 (slN mnRows mxRows), .slice A_u41 ((slG mnRows mxRows).length) c_u41], .int .i64 1]) (caps := []) Tcall_23 rfl rfl (fun w hs => heldCircuit_true (hs.slOwn (.head _)) (by omega) (by omega) rfl)) ?_
      refine Run.q (v := .int .i64 (1 + (((slG mnRows mxRows).length : Nat) : Int) * 3)) rfl (OpQ.y (OpY.pure rfl)) ?_
      refine Run.done ?_
      refine Run.seq ?_
      refine Run.seq ?_
      refine Run.region ?_
      refine Run.q (v := .int .i64 (1 + (((slG mnRows mxRows).length : Nat) : Int) * 3)) rfl (OpQ.y (OpY.pure rfl)) ?_
      refine Run.q (v := .bool (decide ((1 + (((slG mnRows mxRows).length : Nat) : Int) * 3) < 0))) rfl (OpQ.y (OpY.pure rfl)) ?_
      refine Run.done ?_
      refine Run.cond (b := decide ((1 + (((slG mnRows mxRows).length : Nat) : Int) * 3) < 0)) rfl (fun h69 => ?_) (fun h69 => ?_)
      · have p69 := h69; try simp only [decide_eq_true_eq, decide_eq_false_iff_not, beq_iff_eq, bne_iff_ne, beq_eq_false_iff_ne, ne_eq, gt_iff_lt, ge_iff_le, Int.not_lt, Int.not_le, bne_eq_false_iff_eq, Bool.not_eq_true', Bool.not_eq_false', Bool.and_eq_true, Bool.and_eq_false_iff, Bool.or_eq_true, Bool.or_eq_false_iff, Decidable.not_not, List.cons.injEq, and_true] at p69
        exact absurd h69 (by simp <;> omega) --DONE
      · have p69 := h69; try simp only [decide_eq_true_eq, decide_eq_false_iff_not, beq_iff_eq, bne_iff_ne, beq_eq_false_iff_ne, ne_eq, gt_iff_lt, ge_iff_le, Int.not_lt, Int.not_le, bne_eq_false_iff_eq, Bool.not_eq_true', Bool.not_eq_false', Bool.and_eq_true, Bool.and_eq_false_iff, Bool.or_eq_true, Bool.or_eq_false_iff, Decidable.not_not, List.cons.injEq, and_true] at p69
        refine Run.skip ?_
        refine Run.seq ?_
        refine Run.seq ?_
        refine Run.region ?_
        refine Run.q (v := .int .i64 (1 + (((slG mnRows mxRows).length : Nat) : Int) * 3)) rfl (OpQ.y (OpY.pure rfl)) ?_
        refine Run.q (v := .int .i64 (1 + (((slG mnRows mxRows).length : Nat) : Int) * 3)) rfl (OpQ.y (OpY.pure rfl)) ?_
        refine Run.q (v := .bool false) rfl (OpQ.y (OpY.neqSame rfl rfl rfl)) ?_
        refine Run.done ?_
        refine Run.cond (b := false) rfl (fun h => nomatch h) (fun _ => ?_)
        refine Run.skip ?_
        refine Run.seq ?_
        refine Run.region ?_
        refine Run.q (v := .agg #[mvRows]) rfl (OpQ.y (OpY.loadN (cs := [mvRows]) Tagg_24 rfl (Cells.blk (.tail _ (.tail _ (.tail _ (.tail _ (.tail _ (.tail _ (.tail _ (.tail _ (List.Mem.head _))))))))) ⟨rfl, trivial⟩))) ?_
        refine Run.step rfl (OpStep.call (vs := [.agg #[mvRows]]) (caps := []) Tcall_11 rfl rfl (fun w hs => toLinear_spec (hs.sl mhRows) (by omega)) ?_)
        rintro _ _ ⟨u6, rfl, rfl⟩
        show Run _ _ (putF _ _ _ (.agg #[u6])) [.own u6 3 1 mnRows (ints mxRows), .own (.slice A_u41 ((slG mnRows mxRows).length) c_u41) 71 3 ((slG mnRows mxRows).length) (ints (mks 1 (((slG mnRows mxRows).length) * 3))), .own (.slice A_u31 mnRows c_u31) 3 1 mnRows (ints (mks 1 (mnRows * 1))), .own u5 3 1 mnRows (ints mxRows), .blk b4 38 [.int .i64 (slN mnRows mxRows), .slice A_u41 ((slG mnRows mxRows).length) c_u41], .blk b3 28 [.slice A_u31 mnRows c_u31], .blk b2 38 [.int .i64 (slN mnRows mxRows), .slice A_u21 ((slG mnRows mxRows).length) c_u21], .own (.slice A_u21 ((slG mnRows mxRows).length) c_u21) 71 3 ((slG mnRows mxRows).length) (ints (flCX (dcw mnRows (slG mnRows mxRows)))), .own u1 3 1 mnRows (ints mxRows), .blk b1 24 [mvRows]]
        refine Run.step rfl (OpStep.call (vs := [.agg #[u6]]) (caps := []) Tcall_19 rfl rfl (fun w hs => ShortestLinear_spec (hs.slOwn (.head _))) ?_)
        rintro _ _ ⟨u7, rfl, rfl⟩
        show Run _ _ (putF _ _ _ (.tuple #[.agg #[.int .i64 (slN mnRows mxRows), u7], .bool (slB mnRows mxRows)])) [.own u7 71 3 ((slG mnRows mxRows).length) (ints (flCX (dcw mnRows (slG mnRows mxRows)))), .own u6 3 1 mnRows (ints mxRows), .own (.slice A_u41 ((slG mnRows mxRows).length) c_u41) 71 3 ((slG mnRows mxRows).length) (ints (mks 1 (((slG mnRows mxRows).length) * 3))), .own (.slice A_u31 mnRows c_u31) 3 1 mnRows (ints (mks 1 (mnRows * 1))), .own u5 3 1 mnRows (ints mxRows), .blk b4 38 [.int .i64 (slN mnRows mxRows), .slice A_u41 ((slG mnRows mxRows).length) c_u41], .blk b3 28 [.slice A_u31 mnRows c_u31], .blk b2 38 [.int .i64 (slN mnRows mxRows), .slice A_u21 ((slG mnRows mxRows).length) c_u21], .own (.slice A_u21 ((slG mnRows mxRows).length) c_u21) 71 3 ((slG mnRows mxRows).length) (ints (flCX (dcw mnRows (slG mnRows mxRows)))), .own u1 3 1 mnRows (ints mxRows), .blk b1 24 [mvRows]]
        refine Run.q (v := .tuple #[.agg #[.int .i64 (slN mnRows mxRows), u7], .bool (slB mnRows mxRows)]) rfl (OpQ.y (OpY.pure rfl)) ?_
        refine Run.q (v := .agg #[.int .i64 (slN mnRows mxRows), u7]) rfl (OpQ.y (OpY.pure rfl)) ?_
        refine Run.q (v := .bool (slB mnRows mxRows)) rfl (OpQ.y (OpY.pure rfl)) ?_
        refine Run.step rfl (OpStep.alloc (zs := [.int .i64 0, .slice none 0 0]) Tzero_38 fun b5 => ?_)
        refine Run.formOwn (.tail _ (List.Mem.head _)) (fun A_u71 c_u71 hv hcapc_u71 hmaxc_u71 => ?_) (fun _ _ _ => ⟨nofun, nofun, nofun⟩)
        subst hv
        refine Run.step rfl (OpStep.storeAll (us := [.int .i64 (slN mnRows mxRows), .slice A_u71 ((slG mnRows mxRows).length) c_u71]) Tsize_38 rfl rfl rfl (.here _) rfl ?_)
        refine Run.q (v := .bool (slB mnRows mxRows)) rfl (OpQ.y (OpY.pure rfl)) ?_
        refine Run.done ?_
        refine Run.seq ?_
        refine Run.seq ?_
        refine Run.region ?_
        refine Run.q (v := .agg #[.int .i64 (slN mnRows mxRows), .slice A_u71 ((slG mnRows mxRows).length) c_u71]) rfl (OpQ.y (OpY.loadN (cs := [.int .i64 (slN mnRows mxRows), .slice A_u71 ((slG mnRows mxRows).length) c_u71]) Tagg_38 rfl (Cells.blk (.head _) ⟨rfl, rfl, trivial⟩))) ?_
        refine Run.q (v := .agg #[.int .i64 (slN mnRows mxRows), .slice A_u21 ((slG mnRows mxRows).length) c_u21]) rfl (OpQ.y (OpY.loadN (cs := [.int .i64 (slN mnRows mxRows), .slice A_u21 ((slG mnRows mxRows).length) c_u21]) Tagg_38 rfl (Cells.blk (.tail _ (.tail _ (.tail _ (.tail _ (.tail _ (.tail _ (.tail _ (.tail _ (List.Mem.head _))))))))) ⟨rfl, rfl, trivial⟩))) ?_
        refine Run.q (v := .bool true) rfl (OpQ.call (vs := [.agg #[.int .i64 (slN mnRows mxRows), .slice A_u71 ((slG mnRows mxRows).length) c_u71], .agg #[.int .i64 (slN mnRows mxRows), .slice A_u21 ((slG mnRows mxRows).length) c_u21]]) (caps := []) Tcall_20 rfl rfl (fun w hs => eqCircuit_true (hs.slOwn (.tail _ (List.Mem.head _))) (hs.slOwn (.tail _ (.tail _ (.tail _ (.tail _ (.tail _ (.tail _ (.tail _ (.tail _ (.tail _ (List.Mem.head _))))))))))))) ?_
        refine Run.q (v := .bool false) rfl (OpQ.y (OpY.pure rfl)) ?_
        refine Run.q (v := .bool false) rfl (OpQ.y (OpY.pure rfl)) ?_
        refine Run.q (v := .bool (slB mnRows mxRows)) rfl (OpQ.y (OpY.pure rfl)) ?_
        refine Run.q (v := .bool (slB mnRows mxRows)) rfl (OpQ.y (OpY.pure rfl)) ?_
        refine Run.q (v := .bool false) rfl (OpQ.y (OpY.neqBSame Tbool_4 rfl rfl rfl)) ?_
        refine Run.q (v := .bool false) rfl (OpQ.y (OpY.pure rfl)) ?_
        refine Run.done ?_
        refine Run.cond (b := false) rfl (fun h => nomatch h) (fun _ => ?_)
        refine Run.skip ?_
        refine Run.seq ?_
        refine Run.region ?_
        refine Run.q (v := .int .i64 1) rfl (OpQ.y (OpY.pure rfl)) ?_
        refine Run.done ?_
        refine Run.seq ?_
        refine Run.region ?_
        refine Run.q (v := .agg #[.int .i64 (slN mnRows mxRows), .slice A_u41 ((slG mnRows mxRows).length) c_u41]) rfl (OpQ.y (OpY.loadN (cs := [.int .i64 (slN mnRows mxRows), .slice A_u41 ((slG mnRows mxRows).length) c_u41]) Tagg_38 rfl (Cells.blk (.tail _ (.tail _ (.tail _ (.tail _ (.tail _ (.tail _ (List.Mem.head _))))))) ⟨rfl, rfl, trivial⟩))) ?_
        refine Run.q (v := .int .i64 1) rfl (OpQ.y (OpY.pure rfl)) ?_
        refine Run.q (v := .int .i64 (1 + (((slG mnRows mxRows).length : Nat) : Int) * 3)) rfl (OpQ.call (vs := [.agg #[.int .i64 (slN mnRows mxRows), .slice A_u41 ((slG mnRows mxRows).length) c_u41], .int .i64 1]) (caps := []) Tcall_23 rfl rfl (fun w hs => heldCircuit_true (hs.slOwn (.tail _ (.tail _ (.tail _ (List.Mem.head _))))) (by omega) (by omega) rfl)) ?_
        refine Run.q (v := .int .i64 (1 + (((slG mnRows mxRows).length : Nat) : Int) * 3)) rfl (OpQ.y (OpY.pure rfl)) ?_
        refine Run.done ?_
        refine Run.seq ?_
        refine Run.seq ?_
        refine Run.region ?_
        refine Run.q (v := .int .i64 (1 + (((slG mnRows mxRows).length : Nat) : Int) * 3)) rfl (OpQ.y (OpY.pure rfl)) ?_
        refine Run.q (v := .bool (decide ((1 + (((slG mnRows mxRows).length : Nat) : Int) * 3) < 0))) rfl (OpQ.y (OpY.pure rfl)) ?_
        refine Run.done ?_
        refine Run.cond (b := decide ((1 + (((slG mnRows mxRows).length : Nat) : Int) * 3) < 0)) rfl (fun h92 => ?_) (fun h92 => ?_)
        · have p92 := h92; try simp only [decide_eq_true_eq, decide_eq_false_iff_not, beq_iff_eq, bne_iff_ne, beq_eq_false_iff_ne, ne_eq, gt_iff_lt, ge_iff_le, Int.not_lt, Int.not_le, bne_eq_false_iff_eq, Bool.not_eq_true', Bool.not_eq_false', Bool.and_eq_true, Bool.and_eq_false_iff, Bool.or_eq_true, Bool.or_eq_false_iff, Decidable.not_not, List.cons.injEq, and_true] at p92
          exact absurd h92 (by simp <;> omega) --DONE
        · have p92 := h92; try simp only [decide_eq_true_eq, decide_eq_false_iff_not, beq_iff_eq, bne_iff_ne, beq_eq_false_iff_ne, ne_eq, gt_iff_lt, ge_iff_le, Int.not_lt, Int.not_le, bne_eq_false_iff_eq, Bool.not_eq_true', Bool.not_eq_false', Bool.and_eq_true, Bool.and_eq_false_iff, Bool.or_eq_true, Bool.or_eq_false_iff, Decidable.not_not, List.cons.injEq, and_true] at p92
          refine Run.skip ?_
          refine Run.seq ?_
          refine Run.seq ?_
          refine Run.region ?_
          refine Run.q (v := .int .i64 (1 + (((slG mnRows mxRows).length : Nat) : Int) * 3)) rfl (OpQ.y (OpY.pure rfl)) ?_
          refine Run.q (v := .int .i64 (1 + (((slG mnRows mxRows).length : Nat) : Int) * 3)) rfl (OpQ.y (OpY.pure rfl)) ?_
          refine Run.q (v := .bool false) rfl (OpQ.y (OpY.neqSame rfl rfl rfl)) ?_
          refine Run.done ?_
          refine Run.cond (b := false) rfl (fun h => nomatch h) (fun _ => ?_)
          refine Run.skip ?_
          refine Run.seq ?_
          refine Run.region ?_
          refine Run.q (v := .bool true) rfl (OpQ.y (OpY.pure rfl)) ?_
          refine Run.done ?_
          refine Run.ret ?_
          refine ⟨.bool true, [], Out.one rfl rfl, (Some'.weak (.nil _)), ?_⟩
          rfl

end Go.Proofs.Yteehfidjofcfmaa
