/- The walk of the law FnExactSameTrace. -/
import Derived.Test.YtbepibalnnbmgaaSm
import Derived.Test.YtbepibalnnbmgaaInts
import Derived.Test.YtbepibalnnbmgaaProg
set_option linter.unusedSimpArgs false
set_option linter.unusedVariables false
namespace Go.Proofs.Ytbepibalnnbmgaa
open Go Go.RowKit
namespace L36T
theorem Tagg_24 : aggOf Try.prog 24 = some 2 := by kernel_rfl
theorem Tagg_30 : aggOf Try.prog 30 = some 2 := by kernel_rfl
theorem Tbool_4 : Try.prog.underlying 4 = some .bool := by kernel_rfl
theorem Tcall_5 : callable Try.prog 5 = true := by kernel_rfl
theorem Tcall_6 : callable Try.prog 6 = true := by kernel_rfl
theorem Tcall_7 : callable Try.prog 7 = true := by kernel_rfl
theorem Tcall_8 : callable Try.prog 8 = true := by kernel_rfl
theorem Tcall_9 : callable Try.prog 9 = true := by kernel_rfl
theorem Tsize_30 : (Try.prog.info? 30).map (·.size) = some 2 := by kernel_rfl
theorem Tzero_30 : zeroOf Try.prog 30 = some [.int .i64 0, .slice none 0 0] := by kernel_rfl
end L36T
open L36T
set_option maxHeartbeats 1000000 in
set_option maxRecDepth 20000 in
theorem law_spec {aQubits : Int} {avGates : Value} {anGates : Nat} {axGates : List Int} {bQubits : Int} {bvGates : Value} {bnGates : Nat} {bxGates : List Int} {w : World} (awQubits : In64 aQubits) (ahGates : Sl w avGates 3 anGates (ints axGates)) (awGates : ∀ x ∈ axGates, In64 x) (bwQubits : In64 bQubits) (bhGates : Sl w bvGates 3 bnGates (ints bxGates)) (bwGates : ∀ x ∈ bxGates, In64 x) : Calls Try.prog 3 #[.agg #[.int .i64 aQubits, avGates], .agg #[.int .i64 bQubits, bvGates]] w (Post No w fun v _ => v = .bool true) := by
  refine enter (n := 58) (args := [.agg #[.int .i64 aQubits, avGates], .agg #[.int .i64 bQubits, bvGates]]) Try.func3 rfl rfl (St.empty _ _) ?_
  refine Run.seq ?_
  refine Run.region ?_
  refine Run.step rfl (OpStep.box (us := [.int .i64 aQubits, avGates]) rfl fun b1 => ?_)
  refine Run.step rfl (OpStep.box (us := [.int .i64 bQubits, bvGates]) rfl fun b2 => ?_)
  refine Run.q (v := .bool false) rfl (OpQ.y (OpY.pure rfl)) ?_
  refine Run.done ?_
  refine Run.seq ?_
  refine Run.region ?_
  refine Run.q (v := .int .i64 1048576) rfl (OpQ.y (OpY.pure rfl)) ?_
  refine Run.done ?_
  refine Run.seq ?_
  refine Run.region ?_
  refine Run.q (v := .agg #[.int .i64 aQubits, avGates]) rfl (OpQ.y (OpY.loadN (cs := [.int .i64 aQubits, avGates]) Tagg_24 rfl (Cells.blk (.tail _ (List.Mem.head _)) ⟨rfl, rfl, trivial⟩))) ?_
  refine Run.q (v := .int .i64 1048576) rfl (OpQ.y (OpY.pure rfl)) ?_
  refine Run.q (v := .int .i64 (szN 1048576 [anGates])) rfl (OpQ.call (vs := [.agg #[.int .i64 aQubits, avGates], .int .i64 1048576]) (caps := []) Tcall_5 rfl rfl (fun w hs => szCircuit_spec (hs.sl ahGates) (by omega) (by omega))) ?_
  refine Run.q (v := .int .i64 (szN 1048576 [anGates])) rfl (OpQ.y (OpY.pure rfl)) ?_
  refine Run.done ?_
  refine Run.seq ?_
  refine Run.seq ?_
  refine Run.region ?_
  refine Run.q (v := .int .i64 (szN 1048576 [anGates])) rfl (OpQ.y (OpY.pure rfl)) ?_
  refine Run.q (v := .bool (decide ((szN 1048576 [anGates]) < 0))) rfl (OpQ.y (OpY.pure rfl)) ?_
  refine Run.done ?_
  refine Run.cond (b := decide ((szN 1048576 [anGates]) < 0)) rfl (fun h16 => ?_) (fun h16 => ?_)
  · have p16 := h16; try simp only [decide_eq_true_eq, decide_eq_false_iff_not, beq_iff_eq, bne_iff_ne, beq_eq_false_iff_ne, ne_eq, gt_iff_lt, ge_iff_le, Int.not_lt, Int.not_le, bne_eq_false_iff_eq, Bool.not_eq_true', Bool.not_eq_false', Bool.and_eq_true, Bool.and_eq_false_iff, Bool.or_eq_true, Bool.or_eq_false_iff, Decidable.not_not, List.cons.injEq, and_true] at p16
    refine Run.seq ?_
    refine Run.region ?_
    refine Run.q (v := .bool true) rfl (OpQ.y (OpY.pure rfl)) ?_
    refine Run.done ?_
    refine Run.ret ?_
    refine ⟨.bool true, [], Out.one rfl rfl, (Some'.weak (.nil _)), ?_⟩
    rfl
  · have p16 := h16; try simp only [decide_eq_true_eq, decide_eq_false_iff_not, beq_iff_eq, bne_iff_ne, beq_eq_false_iff_ne, ne_eq, gt_iff_lt, ge_iff_le, Int.not_lt, Int.not_le, bne_eq_false_iff_eq, Bool.not_eq_true', Bool.not_eq_false', Bool.and_eq_true, Bool.and_eq_false_iff, Bool.or_eq_true, Bool.or_eq_false_iff, Decidable.not_not, List.cons.injEq, and_true] at p16
    have hz16 := szN_bound (ns := [anGates]) (l := 1048576) p16
    have hz16anGates := hz16 anGates (by simp)
    refine Run.skip ?_
    refine Run.seq ?_
    refine Run.region ?_
    refine Run.q (v := .agg #[.int .i64 bQubits, bvGates]) rfl (OpQ.y (OpY.loadN (cs := [.int .i64 bQubits, bvGates]) Tagg_24 rfl (Cells.blk (.head _) ⟨rfl, rfl, trivial⟩))) ?_
    refine Run.q (v := .int .i64 (szN 1048576 [anGates])) rfl (OpQ.y (OpY.pure rfl)) ?_
    refine Run.q (v := .int .i64 (szN (szN 1048576 [anGates]) [bnGates])) rfl (OpQ.call (vs := [.agg #[.int .i64 bQubits, bvGates], .int .i64 (szN 1048576 [anGates])]) (caps := []) Tcall_5 rfl rfl (fun w hs => szCircuit_spec (hs.sl bhGates) (by omega) (by omega))) ?_
    refine Run.q (v := .int .i64 (szN (szN 1048576 [anGates]) [bnGates])) rfl (OpQ.y (OpY.pure rfl)) ?_
    refine Run.done ?_
    refine Run.seq ?_
    refine Run.seq ?_
    refine Run.region ?_
    refine Run.q (v := .int .i64 (szN (szN 1048576 [anGates]) [bnGates])) rfl (OpQ.y (OpY.pure rfl)) ?_
    refine Run.q (v := .bool (decide ((szN (szN 1048576 [anGates]) [bnGates]) < 0))) rfl (OpQ.y (OpY.pure rfl)) ?_
    refine Run.done ?_
    refine Run.cond (b := decide ((szN (szN 1048576 [anGates]) [bnGates]) < 0)) rfl (fun h21 => ?_) (fun h21 => ?_)
    · have p21 := h21; try simp only [decide_eq_true_eq, decide_eq_false_iff_not, beq_iff_eq, bne_iff_ne, beq_eq_false_iff_ne, ne_eq, gt_iff_lt, ge_iff_le, Int.not_lt, Int.not_le, bne_eq_false_iff_eq, Bool.not_eq_true', Bool.not_eq_false', Bool.and_eq_true, Bool.and_eq_false_iff, Bool.or_eq_true, Bool.or_eq_false_iff, Decidable.not_not, List.cons.injEq, and_true] at p21
      refine Run.seq ?_
      refine Run.region ?_
      refine Run.q (v := .bool true) rfl (OpQ.y (OpY.pure rfl)) ?_
      refine Run.done ?_
      refine Run.ret ?_
      refine ⟨.bool true, [], Out.one rfl rfl, (Some'.weak (.nil _)), ?_⟩
      rfl
    · have p21 := h21; try simp only [decide_eq_true_eq, decide_eq_false_iff_not, beq_iff_eq, bne_iff_ne, beq_eq_false_iff_ne, ne_eq, gt_iff_lt, ge_iff_le, Int.not_lt, Int.not_le, bne_eq_false_iff_eq, Bool.not_eq_true', Bool.not_eq_false', Bool.and_eq_true, Bool.and_eq_false_iff, Bool.or_eq_true, Bool.or_eq_false_iff, Decidable.not_not, List.cons.injEq, and_true] at p21
      have hz21 := szN_bound (ns := [bnGates]) (l := (szN 1048576 [anGates])) p21
      have hz21bnGates := hz21 bnGates (by simp)
      refine Run.skip ?_
      refine Run.seq ?_
      refine Run.held (by kernel_rfl) ?_
      refine DW.take (i := 0) (v := .agg #[.int .i64 aQubits, avGates]) rfl (by kernel_rfl) (by kernel_rfl) (by kernel_rfl) (fun _ _ _ h => h) (Weak.refl _) rfl (OpY.loadN (cs := [.int .i64 aQubits, avGates]) Tagg_24 rfl (Cells.blk (.tail _ (List.Mem.head _)) ⟨rfl, rfl, trivial⟩)) ?_
      refine DW.take (i := 2) (v := .agg #[.int .i64 bQubits, bvGates]) rfl (by kernel_rfl) (by kernel_rfl) (by kernel_rfl) (fun _ _ _ h => h) (Weak.refl _) rfl (OpY.loadN (cs := [.int .i64 bQubits, bvGates]) Tagg_24 rfl (Cells.blk (.head _) ⟨rfl, rfl, trivial⟩)) ?_
      refine DW.step (i := 1) (by kernel_rfl) rfl rfl (OpStep.call (vs := [.agg #[.int .i64 aQubits, avGates]]) (caps := []) Tcall_7 rfl rfl (fun w hs => toCircuit_spec (hs.sl ahGates) (by omega)) ?_)
      rintro _ _ ⟨u1, rfl, rfl⟩
      refine ⟨(Some'.weak (.skip (.take (.take (.nil _))))), ?_⟩
      refine DW.step (i := 3) (by kernel_rfl) rfl rfl (OpStep.call (vs := [.agg #[.int .i64 bQubits, bvGates]]) (caps := []) Tcall_7 rfl rfl (fun w hs => toCircuit_spec (hs.sl bhGates) (by omega)) ?_)
      rintro _ _ ⟨u2, rfl, rfl⟩
      refine ⟨(Some'.weak (.skip (.skip (.take (.take (.nil _)))))), ?_⟩
      refine DW.step (i := 4) (by kernel_rfl) rfl rfl (OpStep.q (v := .tuple #[.bool (stE aQubits axGates anGates bQubits bxGates bnGates), .bool (stB aQubits axGates anGates bQubits bxGates bnGates)]) (OpQ.call (vs := [.agg #[.int .i64 aQubits, u1], .agg #[.int .i64 bQubits, u2]]) (caps := []) Tcall_6 rfl rfl (fun w hs => sSameTrace_spec (hs.slOwn (.tail _ (List.Mem.head _))) (hs.slOwn (.head _)))) ?_)
      refine ⟨(Some'.weak (.skip (.skip (.take (.take (.nil _)))))), ?_⟩
      refine DW.take (i := 5) (v := .tuple #[.bool (stE aQubits axGates anGates bQubits bxGates bnGates), .bool (stB aQubits axGates anGates bQubits bxGates bnGates)]) rfl (by kernel_rfl) (by kernel_rfl) (by kernel_rfl) (fun _ _ _ h => h) (Some'.weak (.skip (.skip (.take (.take (.nil _)))))) rfl (OpY.pure rfl) ?_
      refine DW.take (i := 6) (v := .bool (stE aQubits axGates anGates bQubits bxGates bnGates)) rfl (by kernel_rfl) (by kernel_rfl) (by kernel_rfl) (fun _ _ _ h => h) (Some'.weak (.skip (.skip (.take (.take (.nil _)))))) rfl (OpY.pure rfl) ?_
      refine DW.take (i := 7) (v := .bool (stB aQubits axGates anGates bQubits bxGates bnGates)) rfl (by kernel_rfl) (by kernel_rfl) (by kernel_rfl) (fun _ _ _ h => h) (Some'.weak (.skip (.skip (.take (.take (.nil _)))))) rfl (OpY.pure rfl) ?_
      refine DW.take (i := 8) (v := .bool (stE aQubits axGates anGates bQubits bxGates bnGates)) rfl (by kernel_rfl) (by kernel_rfl) (by kernel_rfl) (fun _ _ _ h => h) (Some'.weak (.skip (.skip (.take (.take (.nil _)))))) rfl (OpY.pure rfl) ?_
      refine DW.take (i := 9) (v := .bool (stB aQubits axGates anGates bQubits bxGates bnGates)) rfl (by kernel_rfl) (by kernel_rfl) (by kernel_rfl) (fun _ _ _ h => h) (Some'.weak (.skip (.skip (.take (.take (.nil _)))))) rfl (OpY.pure rfl) ?_
      refine DW.done (by kernel_rfl) ?_
      refine Run.seq ?_
      refine Run.region ?_
      refine Run.q (v := .agg #[.int .i64 aQubits, avGates]) rfl (OpQ.y (OpY.loadN (cs := [.int .i64 aQubits, avGates]) Tagg_24 rfl (Cells.blk (.tail _ (.tail _ (.tail _ (List.Mem.head _)))) ⟨rfl, rfl, trivial⟩))) ?_
      refine Run.step rfl (OpStep.call (vs := [.agg #[.int .i64 aQubits, avGates]]) (caps := []) Tcall_7 rfl rfl (fun w hs => toCircuit_spec (hs.sl ahGates) (by omega)) ?_)
      rintro _ _ ⟨u3, rfl, rfl⟩
      show Run _ _ (putF _ _ _ (.agg #[.int .i64 aQubits, u3])) [.own u3 47 3 anGates (ints axGates), .own u2 47 3 bnGates (ints bxGates), .own u1 47 3 anGates (ints axGates), .blk b2 24 [.int .i64 bQubits, bvGates], .blk b1 24 [.int .i64 aQubits, avGates]]
      refine Run.step rfl (OpStep.alloc (zs := [.int .i64 0, .slice none 0 0]) Tzero_30 fun b3 => ?_)
      refine Run.formOwn (.tail _ (List.Mem.head _)) (fun A_u31 c_u31 hv hcapc_u31 hmaxc_u31 => ?_) (fun _ _ _ => ⟨nofun, nofun, nofun⟩)
      subst hv
      refine Run.step rfl (OpStep.storeAll (us := [.int .i64 aQubits, .slice A_u31 anGates c_u31]) Tsize_30 rfl rfl rfl (.here _) rfl ?_)
      refine Run.done ?_
      refine Run.seq ?_
      refine Run.region ?_
      refine Run.q (v := .agg #[.int .i64 bQubits, bvGates]) rfl (OpQ.y (OpY.loadN (cs := [.int .i64 bQubits, bvGates]) Tagg_24 rfl (Cells.blk (.tail _ (.tail _ (.tail _ (.tail _ (List.Mem.head _))))) ⟨rfl, rfl, trivial⟩))) ?_
      refine Run.step rfl (OpStep.call (vs := [.agg #[.int .i64 bQubits, bvGates]]) (caps := []) Tcall_7 rfl rfl (fun w hs => toCircuit_spec (hs.sl bhGates) (by omega)) ?_)
      rintro _ _ ⟨u4, rfl, rfl⟩
      show Run _ _ (putF _ _ _ (.agg #[.int .i64 bQubits, u4])) [.own u4 47 3 bnGates (ints bxGates), .blk b3 30 [.int .i64 aQubits, .slice A_u31 anGates c_u31], .own (.slice A_u31 anGates c_u31) 47 3 anGates (ints axGates), .own u2 47 3 bnGates (ints bxGates), .own u1 47 3 anGates (ints axGates), .blk b2 24 [.int .i64 bQubits, bvGates], .blk b1 24 [.int .i64 aQubits, avGates]]
      refine Run.step rfl (OpStep.alloc (zs := [.int .i64 0, .slice none 0 0]) Tzero_30 fun b4 => ?_)
      refine Run.formOwn (.tail _ (List.Mem.head _)) (fun A_u41 c_u41 hv hcapc_u41 hmaxc_u41 => ?_) (fun _ _ _ => ⟨nofun, nofun, nofun⟩)
      subst hv
      refine Run.step rfl (OpStep.storeAll (us := [.int .i64 bQubits, .slice A_u41 bnGates c_u41]) Tsize_30 rfl rfl rfl (.here _) rfl ?_)
      refine Run.done ?_
      refine Run.seq ?_
      refine Run.region ?_
      refine Run.q (v := .agg #[.int .i64 aQubits, .slice A_u31 anGates c_u31]) rfl (OpQ.y (OpY.loadN (cs := [.int .i64 aQubits, .slice A_u31 anGates c_u31]) Tagg_30 rfl (Cells.blk (.tail _ (.tail _ (List.Mem.head _))) ⟨rfl, rfl, trivial⟩))) ?_
      refine Run.q (v := .agg #[.int .i64 bQubits, .slice A_u41 bnGates c_u41]) rfl (OpQ.y (OpY.loadN (cs := [.int .i64 bQubits, .slice A_u41 bnGates c_u41]) Tagg_30 rfl (Cells.blk (.head _) ⟨rfl, rfl, trivial⟩))) ?_
      refine Run.q (v := .tuple #[.bool (stE aQubits axGates anGates bQubits bxGates bnGates), .bool (stB aQubits axGates anGates bQubits bxGates bnGates)]) rfl (OpQ.call (vs := [.agg #[.int .i64 aQubits, .slice A_u31 anGates c_u31], .agg #[.int .i64 bQubits, .slice A_u41 bnGates c_u41]]) (caps := []) Tcall_8 rfl rfl (fun w hs => SameTrace_spec (hs.slOwn (.tail _ (.tail _ (.tail _ (List.Mem.head _))))) (hs.slOwn (.tail _ (List.Mem.head _))))) ?_
      refine Run.q (v := .tuple #[.bool (stE aQubits axGates anGates bQubits bxGates bnGates), .bool (stB aQubits axGates anGates bQubits bxGates bnGates)]) rfl (OpQ.y (OpY.pure rfl)) ?_
      refine Run.q (v := .bool (stE aQubits axGates anGates bQubits bxGates bnGates)) rfl (OpQ.y (OpY.pure rfl)) ?_
      refine Run.q (v := .bool (stB aQubits axGates anGates bQubits bxGates bnGates)) rfl (OpQ.y (OpY.pure rfl)) ?_
      refine Run.q (v := .bool (stE aQubits axGates anGates bQubits bxGates bnGates)) rfl (OpQ.y (OpY.pure rfl)) ?_
      refine Run.q (v := .bool (stB aQubits axGates anGates bQubits bxGates bnGates)) rfl (OpQ.y (OpY.pure rfl)) ?_
      refine Run.done ?_
      refine Run.seq ?_
      refine Run.seq ?_
      refine Run.region ?_
      refine Run.q (v := .bool (stE aQubits axGates anGates bQubits bxGates bnGates)) rfl (OpQ.y (OpY.pure rfl)) ?_
      refine Run.q (v := .bool (stE aQubits axGates anGates bQubits bxGates bnGates)) rfl (OpQ.y (OpY.pure rfl)) ?_
      refine Run.q (v := .bool false) rfl (OpQ.y (OpY.neqBSame Tbool_4 rfl rfl rfl)) ?_
      refine Run.q (v := .bool false) rfl (OpQ.y (OpY.pure rfl)) ?_
      refine Run.q (v := .bool (stB aQubits axGates anGates bQubits bxGates bnGates)) rfl (OpQ.y (OpY.pure rfl)) ?_
      refine Run.q (v := .bool (stB aQubits axGates anGates bQubits bxGates bnGates)) rfl (OpQ.y (OpY.pure rfl)) ?_
      refine Run.q (v := .bool false) rfl (OpQ.y (OpY.neqBSame Tbool_4 rfl rfl rfl)) ?_
      refine Run.q (v := .bool false) rfl (OpQ.y (OpY.pure rfl)) ?_
      refine Run.done ?_
      refine Run.cond (b := false) rfl (fun h => nomatch h) (fun _ => ?_)
      refine Run.skip ?_
      refine Run.seq ?_
      refine Run.seq ?_
      refine Run.held (by kernel_rfl) ?_
      refine DW.take (i := 0) (v := .agg #[.int .i64 aQubits, .slice A_u31 anGates c_u31]) rfl (by kernel_rfl) (by kernel_rfl) (by kernel_rfl) (fun _ _ _ h => h) (Weak.refl _) rfl (OpY.loadN (cs := [.int .i64 aQubits, .slice A_u31 anGates c_u31]) Tagg_30 rfl (Cells.blk (.tail _ (.tail _ (List.Mem.head _))) ⟨rfl, rfl, trivial⟩)) ?_
      refine DW.take (i := 1) (v := .agg #[.int .i64 aQubits, avGates]) rfl (by kernel_rfl) (by kernel_rfl) (by kernel_rfl) (fun _ _ _ h => h) (Weak.refl _) rfl (OpY.loadN (cs := [.int .i64 aQubits, avGates]) Tagg_24 rfl (Cells.blk (.tail _ (.tail _ (.tail _ (.tail _ (.tail _ (.tail _ (.tail _ (List.Mem.head _)))))))) ⟨rfl, rfl, trivial⟩)) ?_
      refine DW.step (i := 2) (by kernel_rfl) rfl rfl (OpStep.call (vs := [.agg #[.int .i64 aQubits, avGates]]) (caps := []) Tcall_7 rfl rfl (fun w hs => toCircuit_spec (hs.sl ahGates) (by omega)) ?_)
      rintro _ _ ⟨u5, rfl, rfl⟩
      refine ⟨(Some'.weak (.skip (.take (.take (.take (.take (.take (.take (.take (.take (.nil _))))))))))), ?_⟩
      refine DW.step (i := 3) (by kernel_rfl) rfl rfl (OpStep.q (v := .bool true) (OpQ.call (vs := [.agg #[.int .i64 aQubits, .slice A_u31 anGates c_u31], .agg #[.int .i64 aQubits, u5]]) (caps := []) Tcall_9 rfl rfl (fun w hs => eqCircuit_true (hs.slOwn (.tail _ (.tail _ (.tail _ (.tail _ (List.Mem.head _)))))) (hs.slOwn (.head _)))) ?_)
      refine ⟨(Some'.weak (.skip (.take (.take (.take (.take (.take (.take (.take (.take (.nil _))))))))))), ?_⟩
      refine DW.take (i := 4) (v := .bool false) rfl (by kernel_rfl) (by kernel_rfl) (by kernel_rfl) (fun _ _ _ h => h) (Some'.weak (.skip (.take (.take (.take (.take (.take (.take (.take (.take (.nil _))))))))))) rfl (OpY.pure rfl) ?_
      refine DW.done (by kernel_rfl) ?_
      refine Run.cond (b := false) rfl (fun h => nomatch h) (fun _ => ?_)
      refine Run.skip ?_
      refine Run.seq ?_
      refine Run.seq ?_
      refine Run.held (by kernel_rfl) ?_
      refine DW.take (i := 0) (v := .agg #[.int .i64 bQubits, .slice A_u41 bnGates c_u41]) rfl (by kernel_rfl) (by kernel_rfl) (by kernel_rfl) (fun _ _ _ h => h) (Weak.refl _) rfl (OpY.loadN (cs := [.int .i64 bQubits, .slice A_u41 bnGates c_u41]) Tagg_30 rfl (Cells.blk (.tail _ (List.Mem.head _)) ⟨rfl, rfl, trivial⟩)) ?_
      refine DW.take (i := 1) (v := .agg #[.int .i64 bQubits, bvGates]) rfl (by kernel_rfl) (by kernel_rfl) (by kernel_rfl) (fun _ _ _ h => h) (Weak.refl _) rfl (OpY.loadN (cs := [.int .i64 bQubits, bvGates]) Tagg_24 rfl (Cells.blk (.tail _ (.tail _ (.tail _ (.tail _ (.tail _ (.tail _ (.tail _ (List.Mem.head _)))))))) ⟨rfl, rfl, trivial⟩)) ?_
      refine DW.step (i := 2) (by kernel_rfl) rfl rfl (OpStep.call (vs := [.agg #[.int .i64 bQubits, bvGates]]) (caps := []) Tcall_7 rfl rfl (fun w hs => toCircuit_spec (hs.sl bhGates) (by omega)) ?_)
      rintro _ _ ⟨u6, rfl, rfl⟩
      refine ⟨(Some'.weak (.skip (.take (.take (.take (.take (.take (.take (.take (.take (.take (.nil _)))))))))))), ?_⟩
      refine DW.step (i := 3) (by kernel_rfl) rfl rfl (OpStep.q (v := .bool true) (OpQ.call (vs := [.agg #[.int .i64 bQubits, .slice A_u41 bnGates c_u41], .agg #[.int .i64 bQubits, u6]]) (caps := []) Tcall_9 rfl rfl (fun w hs => eqCircuit_true (hs.slOwn (.tail _ (.tail _ (.tail _ (List.Mem.head _))))) (hs.slOwn (.head _)))) ?_)
      refine ⟨(Some'.weak (.skip (.take (.take (.take (.take (.take (.take (.take (.take (.take (.nil _)))))))))))), ?_⟩
      refine DW.take (i := 4) (v := .bool false) rfl (by kernel_rfl) (by kernel_rfl) (by kernel_rfl) (fun _ _ _ h => h) (Some'.weak (.skip (.take (.take (.take (.take (.take (.take (.take (.take (.take (.nil _)))))))))))) rfl (OpY.pure rfl) ?_
      refine DW.done (by kernel_rfl) ?_
      refine Run.cond (b := false) rfl (fun h => nomatch h) (fun _ => ?_)
      refine Run.skip ?_
      refine Run.seq ?_
      refine Run.region ?_
      refine Run.q (v := .bool true) rfl (OpQ.y (OpY.pure rfl)) ?_
      refine Run.done ?_
      refine Run.ret ?_
      refine ⟨.bool true, [], Out.one rfl rfl, (Some'.weak (.nil _)), ?_⟩
      rfl

end Go.Proofs.Ytbepibalnnbmgaa
