/- The walk of the law FnExactLeastSwaps. -/
import Derived.Test.YtekikmdjldincaaLst
import Derived.Test.YtekikmdjldincaaInts
import Derived.Test.YtekikmdjldincaaProg
set_option linter.unusedSimpArgs false
set_option linter.unusedVariables false
namespace Go.Proofs.Ytekikmdjldincaa
open Go Go.RowKit
namespace L44T
theorem Tagg_24 : aggOf Try.prog 24 = some 2 := by kernel_rfl
theorem Tagg_27 : aggOf Try.prog 27 = some 2 := by kernel_rfl
theorem Tagg_35 : aggOf Try.prog 35 = some 2 := by kernel_rfl
theorem Tagg_39 : aggOf Try.prog 39 = some 2 := by kernel_rfl
theorem Tbool_4 : Try.prog.underlying 4 = some .bool := by kernel_rfl
theorem Tcall_10 : callable Try.prog 10 = true := by kernel_rfl
theorem Tcall_11 : callable Try.prog 11 = true := by kernel_rfl
theorem Tcall_12 : callable Try.prog 12 = true := by kernel_rfl
theorem Tcall_13 : callable Try.prog 13 = true := by kernel_rfl
theorem Tcall_14 : callable Try.prog 14 = true := by kernel_rfl
theorem Tcall_15 : callable Try.prog 15 = true := by kernel_rfl
theorem Tcall_6 : callable Try.prog 6 = true := by kernel_rfl
theorem Tcall_7 : callable Try.prog 7 = true := by kernel_rfl
theorem Tcall_8 : callable Try.prog 8 = true := by kernel_rfl
theorem Tcall_9 : callable Try.prog 9 = true := by kernel_rfl
theorem Tsize_35 : (Try.prog.info? 35).map (·.size) = some 2 := by kernel_rfl
theorem Tsize_39 : (Try.prog.info? 39).map (·.size) = some 2 := by kernel_rfl
theorem Tsl_28 : sliceOf Try.prog 28 = some (3, 1, 8, [.int .i64 0]) := by kernel_rfl
theorem Tzero_35 : zeroOf Try.prog 35 = some [.int .i64 0, .slice none 0 0] := by kernel_rfl
theorem Tzero_39 : zeroOf Try.prog 39 = some [.int .i64 0, .slice none 0 0] := by kernel_rfl
end L44T
open L44T
set_option maxHeartbeats 1000000 in
set_option maxRecDepth 20000 in
theorem law_spec {gNodes : Int} {gvEdges : Value} {gnEdges : Nat} {gxEdges : List Int} {cQubits : Int} {cvGates : Value} {cnGates : Nat} {cxGates : List Int} {pv : Value} {pn : Nat} {px : List Int} {w : World} (gwNodes : In64 gNodes) (ghEdges : Sl w gvEdges 2 gnEdges (ints gxEdges)) (gwEdges : ∀ x ∈ gxEdges, In64 x) (cwQubits : In64 cQubits) (chGates : Sl w cvGates 3 cnGates (ints cxGates)) (cwGates : ∀ x ∈ cxGates, In64 x) (ph : Sl w pv 1 pn (ints px)) (pw : ∀ x ∈ px, In64 x) : Calls Try.prog 3 #[.agg #[.int .i64 gNodes, gvEdges], .agg #[.int .i64 cQubits, cvGates], pv] w (Post No w fun v _ => v = .bool true) := by
  obtain ⟨pA, pc, rfl, _, _⟩ := ph.form0
  obtain ⟨M, hM⟩ : ∃ M : Nat, 12800000 < M := ⟨12800001, by decide⟩
  refine enter (n := 74) (args := [.agg #[.int .i64 gNodes, gvEdges], .agg #[.int .i64 cQubits, cvGates], .slice pA pn pc]) Try.func3 rfl rfl (St.empty _ _) ?_
  refine Run.seq ?_
  refine Run.region ?_
  refine Run.step rfl (OpStep.box (us := [.int .i64 gNodes, gvEdges]) rfl fun b1 => ?_)
  refine Run.step rfl (OpStep.box (us := [.int .i64 cQubits, cvGates]) rfl fun b2 => ?_)
  refine Run.q (v := .bool false) rfl (OpQ.y (OpY.pure rfl)) ?_
  refine Run.done ?_
  refine Run.seq ?_
  refine Run.seq ?_
  refine Run.region ?_
  refine Run.q (v := .slice pA pn pc) rfl (OpQ.y (OpY.pure rfl)) ?_
  refine Run.q (v := .int .i64 (((pn : Nat) : Int))) rfl (OpQ.y (OpY.len Tsl_28 rfl)) ?_
  refine Run.q (v := .bool (decide ((((pn : Nat) : Int)) > 1048576))) rfl (OpQ.y (OpY.pure rfl)) ?_
  refine Run.done ?_
  refine Run.cond (b := decide ((((pn : Nat) : Int)) > 1048576)) rfl (fun h17 => ?_) (fun h17 => ?_)
  · have p17 := h17; try simp only [bs] at p17
    refine Run.seq ?_
    refine Run.region ?_
    refine Run.q (v := .bool true) rfl (OpQ.y (OpY.pure rfl)) ?_
    refine Run.done ?_
    refine Run.ret ?_
    refine ⟨.bool true, [], Out.one rfl rfl, (Some'.weak (.nil _)), ?_⟩
    rfl
  · have p17 := h17; try simp only [bs] at p17
    refine Run.skip ?_
    refine Run.seq ?_
    refine Run.region ?_
    refine Run.q (v := .int .i64 1048576) rfl (OpQ.y (OpY.pure rfl)) ?_
    refine Run.done ?_
    refine Run.seq ?_
    refine Run.region ?_
    refine Run.q (v := .agg #[.int .i64 gNodes, gvEdges]) rfl (OpQ.y (OpY.loadN (cs := [.int .i64 gNodes, gvEdges]) Tagg_24 rfl (Cells.blk (.tail _ (List.Mem.head _)) ⟨rfl, rfl, trivial⟩))) ?_
    refine Run.q (v := .int .i64 1048576) rfl (OpQ.y (OpY.pure rfl)) ?_
    refine Run.q (v := .int .i64 (szN 1048576 [gnEdges])) rfl (OpQ.call (vs := [.agg #[.int .i64 gNodes, gvEdges], .int .i64 1048576]) (caps := []) Tcall_6 rfl rfl (fun w hs => szCouplingGraph_spec (hs.sl ghEdges) (by omega) (by omega))) ?_
    refine Run.q (v := .int .i64 (szN 1048576 [gnEdges])) rfl (OpQ.y (OpY.pure rfl)) ?_
    refine Run.done ?_
    refine Run.seq ?_
    refine Run.seq ?_
    refine Run.region ?_
    refine Run.q (v := .int .i64 (szN 1048576 [gnEdges])) rfl (OpQ.y (OpY.pure rfl)) ?_
    refine Run.q (v := .bool (decide ((szN 1048576 [gnEdges]) < 0))) rfl (OpQ.y (OpY.pure rfl)) ?_
    refine Run.done ?_
    refine Run.cond (b := decide ((szN 1048576 [gnEdges]) < 0)) rfl (fun h22 => ?_) (fun h22 => ?_)
    · have p22 := h22; try simp only [bs] at p22
      refine Run.seq ?_
      refine Run.region ?_
      refine Run.q (v := .bool true) rfl (OpQ.y (OpY.pure rfl)) ?_
      refine Run.done ?_
      refine Run.ret ?_
      refine ⟨.bool true, [], Out.one rfl rfl, (Some'.weak (.nil _)), ?_⟩
      rfl
    · have p22 := h22; try simp only [bs] at p22
      have hz22 := szN_bound (ns := [gnEdges]) (l := 1048576) p22
      have hz22gnEdges := hz22 gnEdges (by simp)
      refine Run.skip ?_
      refine Run.seq ?_
      refine Run.region ?_
      refine Run.q (v := .agg #[.int .i64 cQubits, cvGates]) rfl (OpQ.y (OpY.loadN (cs := [.int .i64 cQubits, cvGates]) Tagg_27 rfl (Cells.blk (.head _) ⟨rfl, rfl, trivial⟩))) ?_
      refine Run.q (v := .int .i64 (szN 1048576 [gnEdges])) rfl (OpQ.y (OpY.pure rfl)) ?_
      refine Run.q (v := .int .i64 (szN (szN 1048576 [gnEdges]) [cnGates])) rfl (OpQ.call (vs := [.agg #[.int .i64 cQubits, cvGates], .int .i64 (szN 1048576 [gnEdges])]) (caps := []) Tcall_7 rfl rfl (fun w hs => szCircuit_spec (hs.sl chGates) (by omega) (by omega))) ?_
      refine Run.q (v := .int .i64 (szN (szN 1048576 [gnEdges]) [cnGates])) rfl (OpQ.y (OpY.pure rfl)) ?_
      refine Run.done ?_
      refine Run.seq ?_
      refine Run.seq ?_
      refine Run.region ?_
      refine Run.q (v := .int .i64 (szN (szN 1048576 [gnEdges]) [cnGates])) rfl (OpQ.y (OpY.pure rfl)) ?_
      refine Run.q (v := .bool (decide ((szN (szN 1048576 [gnEdges]) [cnGates]) < 0))) rfl (OpQ.y (OpY.pure rfl)) ?_
      refine Run.done ?_
      refine Run.cond (b := decide ((szN (szN 1048576 [gnEdges]) [cnGates]) < 0)) rfl (fun h27 => ?_) (fun h27 => ?_)
      · have p27 := h27; try simp only [bs] at p27
        refine Run.seq ?_
        refine Run.region ?_
        refine Run.q (v := .bool true) rfl (OpQ.y (OpY.pure rfl)) ?_
        refine Run.done ?_
        refine Run.ret ?_
        refine ⟨.bool true, [], Out.one rfl rfl, (Some'.weak (.nil _)), ?_⟩
        rfl
      · have p27 := h27; try simp only [bs] at p27
        have hz27 := szN_bound (ns := [cnGates]) (l := (szN 1048576 [gnEdges])) p27
        have hz27cnGates := hz27 cnGates (by simp)
        refine Run.skip ?_
        refine Run.seq ?_
        refine Run.held (by kernel_rfl) ?_
        refine DW.take (i := 0) (v := .agg #[.int .i64 gNodes, gvEdges]) rfl (by kernel_rfl) (by kernel_rfl) (by kernel_rfl) (fun _ _ _ h => h) (Weak.refl _) rfl (OpY.loadN (cs := [.int .i64 gNodes, gvEdges]) Tagg_24 rfl (Cells.blk (.tail _ (List.Mem.head _)) ⟨rfl, rfl, trivial⟩)) ?_
        refine DW.take (i := 2) (v := .agg #[.int .i64 cQubits, cvGates]) rfl (by kernel_rfl) (by kernel_rfl) (by kernel_rfl) (fun _ _ _ h => h) (Weak.refl _) rfl (OpY.loadN (cs := [.int .i64 cQubits, cvGates]) Tagg_27 rfl (Cells.blk (.head _) ⟨rfl, rfl, trivial⟩)) ?_
        refine DW.take (i := 4) (v := .slice pA pn pc) rfl (by kernel_rfl) (by kernel_rfl) (by kernel_rfl) (fun _ _ _ h => h) (Weak.refl _) rfl (OpY.pure rfl) ?_
        refine DW.step (i := 1) (by kernel_rfl) rfl rfl (OpStep.call (vs := [.agg #[.int .i64 gNodes, gvEdges]]) (caps := []) Tcall_9 rfl rfl (fun w hs => toCouplingGraph_spec (hs.sl ghEdges) (by omega)) ?_)
        rintro _ _ ⟨u1, rfl, rfl⟩
        refine ⟨(Some'.weak (.skip (.take (.take (.nil _))))), ?_⟩
        refine DW.step (i := 3) (by kernel_rfl) rfl rfl (OpStep.call (vs := [.agg #[.int .i64 cQubits, cvGates]]) (caps := []) Tcall_10 rfl rfl (fun w hs => toCircuit_spec (hs.sl chGates) (by omega)) ?_)
        rintro _ _ ⟨u2, rfl, rfl⟩
        refine ⟨(Some'.weak (.skip (.skip (.take (.take (.nil _)))))), ?_⟩
        refine DW.step (i := 5) (by kernel_rfl) rfl rfl (OpStep.call (vs := [.slice pA pn pc]) (caps := []) Tcall_11 rfl rfl (fun w hs => toIntS_spec (hs.sl ph) (by omega)) ?_)
        rintro u3 _ rfl
        refine ⟨(Some'.weak (.skip (.skip (.skip (.take (.take (.nil _))))))), ?_⟩
        refine DW.step (i := 6) (by kernel_rfl) rfl rfl (OpStep.q (v := .tuple #[.int .i64 (((lsw M gNodes gxEdges gnEdges cQubits cxGates cnGates px pn : Nat) : Int)), .bool (rtB M gNodes gxEdges gnEdges cQubits cxGates cnGates px pn)]) (OpQ.call (vs := [.agg #[.int .i64 gNodes, u1], .agg #[.int .i64 cQubits, u2], u3]) (caps := []) Tcall_8 rfl rfl (fun w hs => sLeastSwaps_spec hM gwNodes gwEdges (hs.slOwn (.tail _ (.tail _ (List.Mem.head _)))) (hs.slOwn (.tail _ (List.Mem.head _))) (hs.slOwn (.head _)))) ?_)
        refine ⟨(Some'.weak (.skip (.skip (.skip (.take (.take (.nil _))))))), ?_⟩
        refine DW.take (i := 7) (v := .tuple #[.int .i64 (((lsw M gNodes gxEdges gnEdges cQubits cxGates cnGates px pn : Nat) : Int)), .bool (rtB M gNodes gxEdges gnEdges cQubits cxGates cnGates px pn)]) rfl (by kernel_rfl) (by kernel_rfl) (by kernel_rfl) (fun _ _ _ h => h) (Some'.weak (.skip (.skip (.skip (.take (.take (.nil _))))))) rfl (OpY.pure rfl) ?_
        refine DW.take (i := 8) (v := .int .i64 (((lsw M gNodes gxEdges gnEdges cQubits cxGates cnGates px pn : Nat) : Int))) rfl (by kernel_rfl) (by kernel_rfl) (by kernel_rfl) (fun _ _ _ h => h) (Some'.weak (.skip (.skip (.skip (.take (.take (.nil _))))))) rfl (OpY.pure rfl) ?_
        refine DW.take (i := 9) (v := .bool (rtB M gNodes gxEdges gnEdges cQubits cxGates cnGates px pn)) rfl (by kernel_rfl) (by kernel_rfl) (by kernel_rfl) (fun _ _ _ h => h) (Some'.weak (.skip (.skip (.skip (.take (.take (.nil _))))))) rfl (OpY.pure rfl) ?_
        refine DW.take (i := 10) (v := .int .i64 (((lsw M gNodes gxEdges gnEdges cQubits cxGates cnGates px pn : Nat) : Int))) rfl (by kernel_rfl) (by kernel_rfl) (by kernel_rfl) (fun _ _ _ h => h) (Some'.weak (.skip (.skip (.skip (.take (.take (.nil _))))))) rfl (OpY.pure rfl) ?_
        refine DW.take (i := 11) (v := .bool (rtB M gNodes gxEdges gnEdges cQubits cxGates cnGates px pn)) rfl (by kernel_rfl) (by kernel_rfl) (by kernel_rfl) (fun _ _ _ h => h) (Some'.weak (.skip (.skip (.skip (.take (.take (.nil _))))))) rfl (OpY.pure rfl) ?_
        refine DW.done (by kernel_rfl) ?_
        refine Run.seq ?_
        refine Run.region ?_
        refine Run.q (v := .agg #[.int .i64 gNodes, gvEdges]) rfl (OpQ.y (OpY.loadN (cs := [.int .i64 gNodes, gvEdges]) Tagg_24 rfl (Cells.blk (.tail _ (.tail _ (.tail _ (.tail _ (List.Mem.head _))))) ⟨rfl, rfl, trivial⟩))) ?_
        refine Run.step rfl (OpStep.call (vs := [.agg #[.int .i64 gNodes, gvEdges]]) (caps := []) Tcall_9 rfl rfl (fun w hs => toCouplingGraph_spec (hs.sl ghEdges) (by omega)) ?_)
        rintro _ _ ⟨u4, rfl, rfl⟩
        show Run _ _ (putF _ _ _ (.agg #[.int .i64 gNodes, u4])) [.own u4 77 2 gnEdges (ints gxEdges), .own u3 3 1 pn (ints px), .own u2 81 3 cnGates (ints cxGates), .own u1 77 2 gnEdges (ints gxEdges), .blk b2 27 [.int .i64 cQubits, cvGates], .blk b1 24 [.int .i64 gNodes, gvEdges]]
        refine Run.step rfl (OpStep.alloc (zs := [.int .i64 0, .slice none 0 0]) Tzero_35 fun b3 => ?_)
        refine Run.formOwn (.tail _ (List.Mem.head _)) (fun A_u41 c_u41 hv hcapc_u41 hmaxc_u41 => ?_) (fun _ _ _ => ⟨nofun, nofun, nofun⟩)
        subst hv
        refine Run.step rfl (OpStep.storeAll (us := [.int .i64 gNodes, .slice A_u41 gnEdges c_u41]) Tsize_35 rfl rfl rfl (.here _) rfl ?_)
        refine Run.done ?_
        refine Run.seq ?_
        refine Run.region ?_
        refine Run.q (v := .agg #[.int .i64 cQubits, cvGates]) rfl (OpQ.y (OpY.loadN (cs := [.int .i64 cQubits, cvGates]) Tagg_27 rfl (Cells.blk (.tail _ (.tail _ (.tail _ (.tail _ (.tail _ (List.Mem.head _)))))) ⟨rfl, rfl, trivial⟩))) ?_
        refine Run.step rfl (OpStep.call (vs := [.agg #[.int .i64 cQubits, cvGates]]) (caps := []) Tcall_10 rfl rfl (fun w hs => toCircuit_spec (hs.sl chGates) (by omega)) ?_)
        rintro _ _ ⟨u5, rfl, rfl⟩
        show Run _ _ (putF _ _ _ (.agg #[.int .i64 cQubits, u5])) [.own u5 81 3 cnGates (ints cxGates), .blk b3 35 [.int .i64 gNodes, .slice A_u41 gnEdges c_u41], .own (.slice A_u41 gnEdges c_u41) 77 2 gnEdges (ints gxEdges), .own u3 3 1 pn (ints px), .own u2 81 3 cnGates (ints cxGates), .own u1 77 2 gnEdges (ints gxEdges), .blk b2 27 [.int .i64 cQubits, cvGates], .blk b1 24 [.int .i64 gNodes, gvEdges]]
        refine Run.step rfl (OpStep.alloc (zs := [.int .i64 0, .slice none 0 0]) Tzero_39 fun b4 => ?_)
        refine Run.formOwn (.tail _ (List.Mem.head _)) (fun A_u51 c_u51 hv hcapc_u51 hmaxc_u51 => ?_) (fun _ _ _ => ⟨nofun, nofun, nofun⟩)
        subst hv
        refine Run.step rfl (OpStep.storeAll (us := [.int .i64 cQubits, .slice A_u51 cnGates c_u51]) Tsize_39 rfl rfl rfl (.here _) rfl ?_)
        refine Run.done ?_
        refine Run.seq ?_
        refine Run.region ?_
        refine Run.q (v := .slice pA pn pc) rfl (OpQ.y (OpY.pure rfl)) ?_
        refine Run.step rfl (OpStep.call (vs := [.slice pA pn pc]) (caps := []) Tcall_11 rfl rfl (fun w hs => toIntS_spec (hs.sl ph) (by omega)) ?_)
        rintro u6 _ rfl
        show Run _ _ (putF _ _ _ u6) [.own u6 3 1 pn (ints px), .blk b4 39 [.int .i64 cQubits, .slice A_u51 cnGates c_u51], .own (.slice A_u51 cnGates c_u51) 81 3 cnGates (ints cxGates), .blk b3 35 [.int .i64 gNodes, .slice A_u41 gnEdges c_u41], .own (.slice A_u41 gnEdges c_u41) 77 2 gnEdges (ints gxEdges), .own u3 3 1 pn (ints px), .own u2 81 3 cnGates (ints cxGates), .own u1 77 2 gnEdges (ints gxEdges), .blk b2 27 [.int .i64 cQubits, cvGates], .blk b1 24 [.int .i64 gNodes, gvEdges]]
        refine Run.q (v := u6) rfl (OpQ.y (OpY.pure rfl)) ?_
        refine Run.done ?_
        refine Run.seq ?_
        refine Run.region ?_
        refine Run.q (v := .agg #[.int .i64 gNodes, .slice A_u41 gnEdges c_u41]) rfl (OpQ.y (OpY.loadN (cs := [.int .i64 gNodes, .slice A_u41 gnEdges c_u41]) Tagg_35 rfl (Cells.blk (.tail _ (.tail _ (.tail _ (List.Mem.head _)))) ⟨rfl, rfl, trivial⟩))) ?_
        refine Run.q (v := .agg #[.int .i64 cQubits, .slice A_u51 cnGates c_u51]) rfl (OpQ.y (OpY.loadN (cs := [.int .i64 cQubits, .slice A_u51 cnGates c_u51]) Tagg_39 rfl (Cells.blk (.tail _ (List.Mem.head _)) ⟨rfl, rfl, trivial⟩))) ?_
        refine Run.q (v := u6) rfl (OpQ.y (OpY.pure rfl)) ?_
        refine Run.q (v := .tuple #[.int .i64 (((lsw M gNodes gxEdges gnEdges cQubits cxGates cnGates px pn : Nat) : Int)), .bool (rtB M gNodes gxEdges gnEdges cQubits cxGates cnGates px pn)]) rfl (OpQ.call (vs := [.agg #[.int .i64 gNodes, .slice A_u41 gnEdges c_u41], .agg #[.int .i64 cQubits, .slice A_u51 cnGates c_u51], u6]) (caps := []) Tcall_12 rfl rfl (fun w hs => LeastSwaps_spec hM (hs.slOwn (.tail _ (.tail _ (.tail _ (.tail _ (List.Mem.head _)))))) (hs.slOwn (.tail _ (.tail _ (List.Mem.head _)))) (hs.slOwn (.head _)))) ?_
        refine Run.q (v := .tuple #[.int .i64 (((lsw M gNodes gxEdges gnEdges cQubits cxGates cnGates px pn : Nat) : Int)), .bool (rtB M gNodes gxEdges gnEdges cQubits cxGates cnGates px pn)]) rfl (OpQ.y (OpY.pure rfl)) ?_
        refine Run.q (v := .int .i64 (((lsw M gNodes gxEdges gnEdges cQubits cxGates cnGates px pn : Nat) : Int))) rfl (OpQ.y (OpY.pure rfl)) ?_
        refine Run.q (v := .bool (rtB M gNodes gxEdges gnEdges cQubits cxGates cnGates px pn)) rfl (OpQ.y (OpY.pure rfl)) ?_
        refine Run.q (v := .int .i64 (((lsw M gNodes gxEdges gnEdges cQubits cxGates cnGates px pn : Nat) : Int))) rfl (OpQ.y (OpY.pure rfl)) ?_
        refine Run.q (v := .bool (rtB M gNodes gxEdges gnEdges cQubits cxGates cnGates px pn)) rfl (OpQ.y (OpY.pure rfl)) ?_
        refine Run.done ?_
        refine Run.seq ?_
        refine Run.seq ?_
        refine Run.region ?_
        refine Run.q (v := .int .i64 (((lsw M gNodes gxEdges gnEdges cQubits cxGates cnGates px pn : Nat) : Int))) rfl (OpQ.y (OpY.pure rfl)) ?_
        refine Run.q (v := .int .i64 (((lsw M gNodes gxEdges gnEdges cQubits cxGates cnGates px pn : Nat) : Int))) rfl (OpQ.y (OpY.pure rfl)) ?_
        refine Run.q (v := .bool false) rfl (OpQ.y (OpY.neqSame rfl rfl rfl)) ?_
        refine Run.q (v := .bool false) rfl (OpQ.y (OpY.pure rfl)) ?_
        refine Run.q (v := .bool (rtB M gNodes gxEdges gnEdges cQubits cxGates cnGates px pn)) rfl (OpQ.y (OpY.pure rfl)) ?_
        refine Run.q (v := .bool (rtB M gNodes gxEdges gnEdges cQubits cxGates cnGates px pn)) rfl (OpQ.y (OpY.pure rfl)) ?_
        refine Run.q (v := .bool false) rfl (OpQ.y (OpY.neqBSame Tbool_4 rfl rfl rfl)) ?_
        refine Run.q (v := .bool false) rfl (OpQ.y (OpY.pure rfl)) ?_
        refine Run.done ?_
        refine Run.cond (b := false) rfl (fun h => nomatch h) (fun _ => ?_)
        refine Run.skip ?_
        refine Run.seq ?_
        refine Run.seq ?_
        refine Run.held (by kernel_rfl) ?_
        refine DW.take (i := 0) (v := .agg #[.int .i64 gNodes, .slice A_u41 gnEdges c_u41]) rfl (by kernel_rfl) (by kernel_rfl) (by kernel_rfl) (fun _ _ _ h => h) (Weak.refl _) rfl (OpY.loadN (cs := [.int .i64 gNodes, .slice A_u41 gnEdges c_u41]) Tagg_35 rfl (Cells.blk (.tail _ (.tail _ (.tail _ (List.Mem.head _)))) ⟨rfl, rfl, trivial⟩)) ?_
        refine DW.take (i := 1) (v := .agg #[.int .i64 gNodes, gvEdges]) rfl (by kernel_rfl) (by kernel_rfl) (by kernel_rfl) (fun _ _ _ h => h) (Weak.refl _) rfl (OpY.loadN (cs := [.int .i64 gNodes, gvEdges]) Tagg_24 rfl (Cells.blk (.tail _ (.tail _ (.tail _ (.tail _ (.tail _ (.tail _ (.tail _ (.tail _ (.tail _ (List.Mem.head _)))))))))) ⟨rfl, rfl, trivial⟩)) ?_
        refine DW.step (i := 2) (by kernel_rfl) rfl rfl (OpStep.call (vs := [.agg #[.int .i64 gNodes, gvEdges]]) (caps := []) Tcall_9 rfl rfl (fun w hs => toCouplingGraph_spec (hs.sl ghEdges) (by omega)) ?_)
        rintro _ _ ⟨u7, rfl, rfl⟩
        refine ⟨(Some'.weak (.skip (.take (.take (.take (.take (.take (.take (.take (.take (.take (.take (.nil _))))))))))))), ?_⟩
        refine DW.step (i := 3) (by kernel_rfl) rfl rfl (OpStep.q (v := .bool true) (OpQ.call (vs := [.agg #[.int .i64 gNodes, .slice A_u41 gnEdges c_u41], .agg #[.int .i64 gNodes, u7]]) (caps := []) Tcall_13 rfl rfl (fun w hs => eqCouplingGraph_true (hs.slOwn (.tail _ (.tail _ (.tail _ (.tail _ (.tail _ (List.Mem.head _))))))) (hs.slOwn (.head _)))) ?_)
        refine ⟨(Some'.weak (.skip (.take (.take (.take (.take (.take (.take (.take (.take (.take (.take (.nil _))))))))))))), ?_⟩
        refine DW.take (i := 4) (v := .bool false) rfl (by kernel_rfl) (by kernel_rfl) (by kernel_rfl) (fun _ _ _ h => h) (Some'.weak (.skip (.take (.take (.take (.take (.take (.take (.take (.take (.take (.take (.nil _))))))))))))) rfl (OpY.pure rfl) ?_
        refine DW.done (by kernel_rfl) ?_
        refine Run.cond (b := false) rfl (fun h => nomatch h) (fun _ => ?_)
        refine Run.skip ?_
        refine Run.seq ?_
        refine Run.seq ?_
        refine Run.held (by kernel_rfl) ?_
        refine DW.take (i := 0) (v := .agg #[.int .i64 cQubits, .slice A_u51 cnGates c_u51]) rfl (by kernel_rfl) (by kernel_rfl) (by kernel_rfl) (fun _ _ _ h => h) (Weak.refl _) rfl (OpY.loadN (cs := [.int .i64 cQubits, .slice A_u51 cnGates c_u51]) Tagg_39 rfl (Cells.blk (.tail _ (.tail _ (List.Mem.head _))) ⟨rfl, rfl, trivial⟩)) ?_
        refine DW.take (i := 1) (v := .agg #[.int .i64 cQubits, cvGates]) rfl (by kernel_rfl) (by kernel_rfl) (by kernel_rfl) (fun _ _ _ h => h) (Weak.refl _) rfl (OpY.loadN (cs := [.int .i64 cQubits, cvGates]) Tagg_27 rfl (Cells.blk (.tail _ (.tail _ (.tail _ (.tail _ (.tail _ (.tail _ (.tail _ (.tail _ (.tail _ (List.Mem.head _)))))))))) ⟨rfl, rfl, trivial⟩)) ?_
        refine DW.step (i := 2) (by kernel_rfl) rfl rfl (OpStep.call (vs := [.agg #[.int .i64 cQubits, cvGates]]) (caps := []) Tcall_10 rfl rfl (fun w hs => toCircuit_spec (hs.sl chGates) (by omega)) ?_)
        rintro _ _ ⟨u8, rfl, rfl⟩
        refine ⟨(Some'.weak (.skip (.take (.take (.take (.take (.take (.take (.take (.take (.take (.take (.take (.nil _)))))))))))))), ?_⟩
        refine DW.step (i := 3) (by kernel_rfl) rfl rfl (OpStep.q (v := .bool true) (OpQ.call (vs := [.agg #[.int .i64 cQubits, .slice A_u51 cnGates c_u51], .agg #[.int .i64 cQubits, u8]]) (caps := []) Tcall_14 rfl rfl (fun w hs => eqCircuit_true (hs.slOwn (.tail _ (.tail _ (.tail _ (.tail _ (List.Mem.head _)))))) (hs.slOwn (.head _)))) ?_)
        refine ⟨(Some'.weak (.skip (.take (.take (.take (.take (.take (.take (.take (.take (.take (.take (.take (.nil _)))))))))))))), ?_⟩
        refine DW.take (i := 4) (v := .bool false) rfl (by kernel_rfl) (by kernel_rfl) (by kernel_rfl) (fun _ _ _ h => h) (Some'.weak (.skip (.take (.take (.take (.take (.take (.take (.take (.take (.take (.take (.take (.nil _)))))))))))))) rfl (OpY.pure rfl) ?_
        refine DW.done (by kernel_rfl) ?_
        refine Run.cond (b := false) rfl (fun h => nomatch h) (fun _ => ?_)
        refine Run.skip ?_
        refine Run.seq ?_
        refine Run.seq ?_
        refine Run.region ?_
        refine Run.q (v := u6) rfl (OpQ.y (OpY.pure rfl)) ?_
        refine Run.q (v := .slice pA pn pc) rfl (OpQ.y (OpY.pure rfl)) ?_
        refine Run.step rfl (OpStep.call (vs := [.slice pA pn pc]) (caps := []) Tcall_11 rfl rfl (fun w hs => toIntS_spec (hs.sl ph) (by omega)) ?_)
        rintro u9 _ rfl
        show Run _ _ (putF _ _ _ u9) [.own u9 3 1 pn (ints px), .own u8 81 3 cnGates (ints cxGates), .own u7 77 2 gnEdges (ints gxEdges), .own u6 3 1 pn (ints px), .blk b4 39 [.int .i64 cQubits, .slice A_u51 cnGates c_u51], .own (.slice A_u51 cnGates c_u51) 81 3 cnGates (ints cxGates), .blk b3 35 [.int .i64 gNodes, .slice A_u41 gnEdges c_u41], .own (.slice A_u41 gnEdges c_u41) 77 2 gnEdges (ints gxEdges), .own u3 3 1 pn (ints px), .own u2 81 3 cnGates (ints cxGates), .own u1 77 2 gnEdges (ints gxEdges), .blk b2 27 [.int .i64 cQubits, cvGates], .blk b1 24 [.int .i64 gNodes, gvEdges]]
        refine Run.q (v := .bool true) rfl (OpQ.call (vs := [u6, u9]) (caps := []) Tcall_15 rfl rfl (fun w hs => eqIntS_true (hs.slOwn (.tail _ (.tail _ (.tail _ (List.Mem.head _))))) (hs.slOwn (.head _)) rfl)) ?_
        refine Run.q (v := .bool false) rfl (OpQ.y (OpY.pure rfl)) ?_
        refine Run.done ?_
        refine Run.cond (b := false) rfl (fun h => nomatch h) (fun _ => ?_)
        refine Run.skip ?_
        refine Run.seq ?_
        refine Run.region ?_
        refine Run.q (v := .bool true) rfl (OpQ.y (OpY.pure rfl)) ?_
        refine Run.done ?_
        refine Run.ret ?_
        refine ⟨.bool true, [], Out.one rfl rfl, (Some'.weak (.nil _)), ?_⟩
        rfl

end Go.Proofs.Ytekikmdjldincaa
