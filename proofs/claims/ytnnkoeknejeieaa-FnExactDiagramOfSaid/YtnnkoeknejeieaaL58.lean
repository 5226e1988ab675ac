/- The walk of the law FnExactDiagramOf. -/
import Derived.Test.YtnnkoeknejeieaaZdp
import Derived.Test.YtnnkoeknejeieaaProg
set_option linter.unusedSimpArgs false
set_option linter.unusedVariables false
namespace Go.Proofs.Ytnnkoeknejeieaa
open Go Go.RowKit
namespace L58T
theorem Tagg_24 : aggOf Try.prog 24 = some 2 := by kernel_rfl
theorem Tagg_29 : aggOf Try.prog 29 = some 5 := by kernel_rfl
theorem Tagg_34 : aggOf Try.prog 34 = some 2 := by kernel_rfl
theorem Tbool_4 : Try.prog.underlying 4 = some .bool := by kernel_rfl
theorem Tcall_10 : callable Try.prog 10 = true := by kernel_rfl
theorem Tcall_11 : callable Try.prog 11 = true := by kernel_rfl
theorem Tcall_12 : callable Try.prog 12 = true := by kernel_rfl
theorem Tcall_4 : callable Try.prog 4 = true := by kernel_rfl
theorem Tcall_5 : callable Try.prog 5 = true := by kernel_rfl
theorem Tcall_6 : callable Try.prog 6 = true := by kernel_rfl
theorem Tcall_7 : callable Try.prog 7 = true := by kernel_rfl
theorem Tcall_8 : callable Try.prog 8 = true := by kernel_rfl
theorem Tcall_9 : callable Try.prog 9 = true := by kernel_rfl
theorem Tsize_29 : (Try.prog.info? 29).map (·.size) = some 5 := by kernel_rfl
theorem Tsize_34 : (Try.prog.info? 34).map (·.size) = some 2 := by kernel_rfl
theorem Tzero_29 : zeroOf Try.prog 29 = some [.int .i64 0, .slice none 0 0, .slice none 0 0, .int .i64 0, .int .i64 0] := by kernel_rfl
theorem Tzero_34 : zeroOf Try.prog 34 = some [.int .i64 0, .slice none 0 0] := by kernel_rfl
end L58T
open L58T
set_option maxHeartbeats 1000000 in
set_option maxRecDepth 20000 in
theorem law_spec {pQubits : Int} {pvGates : Value} {pnGates : Nat} {pxGates : List Int} {w : World} (pwQubits : In64 pQubits) (phGates : Sl w pvGates 3 pnGates (ints pxGates)) (pwGates : ∀ x ∈ pxGates, In64 x) : Calls Try.prog 3 #[.agg #[.int .i64 pQubits, pvGates]] w (Post No w fun v _ => v = .bool true) := by
 have hbd := dRes_bd pQubits pxGates pnGates
 refine enter (n := 96) (args := [.agg #[.int .i64 pQubits, pvGates]]) Try.func3 rfl rfl (St.empty _ _) ?_
 refine .sr ?_
 refine .step rfl (.box (us := [.int .i64 pQubits, pvGates]) rfl fun b1 => ?_)
 refine .m ?_
 refine .dsr ?_
 refine .m ?_
 refine .dsr ?_
 refine .u (.agg #[.int .i64 pQubits, pvGates]) (.loadN (cs := [.int .i64 pQubits, pvGates]) Tagg_24 rfl (Cells.blk (.head _) ⟨rfl, rfl, trivial⟩)) ?_
 refine .m ?_
 refine .c (.int .i64 (szN 1048576 [pnGates])) [.agg #[.int .i64 pQubits, pvGates], .int .i64 1048576] Tcall_4 (fun w hs => szCircuit_spec (hs.sl phGates) (by omega) (by omega)) ?_
 refine .m ?_
 refine .done ?_
 refine .seq ?_
 refine .sr ?_
 refine .m ?_
 refine .w (.bool (decide ((szN 1048576 [pnGates]) < 0))) ?_
 refine .done ?_
 refine .cond (b := decide ((szN 1048576 [pnGates]) < 0)) rfl (fun h18 => ?_) (fun h18 => ?_)
 ·have p18 := h18; try simp only [bs] at p18
  refine .sr ?_
  refine .m ?_
  refine .done ?_
  refine .ret ?_
  refine ⟨.bool true, [], Out.one rfl rfl, (Some'.weak (.nil _)), ?_⟩
  rfl
 have p18 := h18; try simp only [bs] at p18
 have hz18 := szN_bound (ns := [pnGates]) (l := 1048576) p18
 have hz18pnGates := hz18 pnGates (by simp)
 refine .skip ?_
 refine .sr ?_
 refine .u (.agg #[.int .i64 pQubits, pvGates]) (.loadN (cs := [.int .i64 pQubits, pvGates]) Tagg_24 rfl (Cells.blk (.head _) ⟨rfl, rfl, trivial⟩)) ?_
 refine .step rfl (.c [.agg #[.int .i64 pQubits, pvGates]] Tcall_6 (fun w hs => toCircuit_spec (hs.sl phGates) (by omega)) ?_)
 rintro _ _ ⟨u1, rfl, rfl⟩
 show Run _ _ (putF _ _ _ (.agg #[.int .i64 pQubits, u1])) [.own u1 54 3 pnGates (ints pxGates), .blk b1 24 [.int .i64 pQubits, pvGates]]
 refine .step rfl (.c [.agg #[.int .i64 pQubits, u1]] Tcall_5 (fun w hs => sDiagramOf_spec (hs.slOwn (.head _))) ?_)
 rintro _ _ ⟨u2, u3, rfl, rfl⟩
 show Run _ _ (putF _ _ _ (.tuple #[.agg #[.int .i64 ((dRes pQubits pxGates pnGates).q), u2, u3, .int .i64 ((dRes pQubits pxGates pnGates).t), .int .i64 ((dRes pQubits pxGates pnGates).rt)], .bool (dOk pQubits pxGates pnGates)])) [.own u2 52 2 ((dRes pQubits pxGates pnGates).ns.length) (nds (dRes pQubits pxGates pnGates).ns), .own u3 71 3 ((dRes pQubits pxGates pnGates).ws.length) (wls (dRes pQubits pxGates pnGates).ws), .own u1 54 3 pnGates (ints pxGates), .blk b1 24 [.int .i64 pQubits, pvGates]]
 refine .w (.tuple #[.agg #[.int .i64 ((dRes pQubits pxGates pnGates).q), u2, u3, .int .i64 ((dRes pQubits pxGates pnGates).t), .int .i64 ((dRes pQubits pxGates pnGates).rt)], .bool (dOk pQubits pxGates pnGates)]) ?_
 refine .w (.agg #[.int .i64 ((dRes pQubits pxGates pnGates).q), u2, u3, .int .i64 ((dRes pQubits pxGates pnGates).t), .int .i64 ((dRes pQubits pxGates pnGates).rt)]) ?_
 refine .w (.bool (dOk pQubits pxGates pnGates)) ?_
 refine .step rfl (.alloc (zs := [.int .i64 0, .slice none 0 0, .slice none 0 0, .int .i64 0, .int .i64 0]) Tzero_29 fun b2 => ?_)
 refine Run.formOwn (.tail _ (.head _)) (fun A_u21 c_u21 hv hcapc_u21 hmaxc_u21 => ?_) (fun _ _ _ => ⟨nofun, nofun, nofun⟩)
 subst hv
 refine Run.formOwn (.tail _ (.tail _ (.head _))) (fun A_u31 c_u31 hv hcapc_u31 hmaxc_u31 => ?_) (fun _ _ _ => ⟨nofun, nofun, nofun⟩)
 subst hv
 refine .step rfl (.storeAll (us := [.int .i64 ((dRes pQubits pxGates pnGates).q), .slice A_u21 ((dRes pQubits pxGates pnGates).ns.length) c_u21, .slice A_u31 ((dRes pQubits pxGates pnGates).ws.length) c_u31, .int .i64 ((dRes pQubits pxGates pnGates).t), .int .i64 ((dRes pQubits pxGates pnGates).rt)]) Tsize_29 rfl rfl rfl (.here _) rfl ?_)
 refine .m ?_
 refine .dsr ?_
 refine .u (.agg #[.int .i64 pQubits, pvGates]) (.loadN (cs := [.int .i64 pQubits, pvGates]) Tagg_24 rfl (Cells.blk (.tail _ (.tail _ (.tail _ (.tail _ (.head _))))) ⟨rfl, rfl, trivial⟩)) ?_
 refine .step rfl (.c [.agg #[.int .i64 pQubits, pvGates]] Tcall_6 (fun w hs => toCircuit_spec (hs.sl phGates) (by omega)) ?_)
 rintro _ _ ⟨u4, rfl, rfl⟩
 show Run _ _ (putF _ _ _ (.agg #[.int .i64 pQubits, u4])) [.own u4 54 3 pnGates (ints pxGates), .blk b2 29 [.int .i64 ((dRes pQubits pxGates pnGates).q), .slice A_u21 ((dRes pQubits pxGates pnGates).ns.length) c_u21, .slice A_u31 ((dRes pQubits pxGates pnGates).ws.length) c_u31, .int .i64 ((dRes pQubits pxGates pnGates).t), .int .i64 ((dRes pQubits pxGates pnGates).rt)], .own (.slice A_u21 ((dRes pQubits pxGates pnGates).ns.length) c_u21) 52 2 ((dRes pQubits pxGates pnGates).ns.length) (nds (dRes pQubits pxGates pnGates).ns), .own (.slice A_u31 ((dRes pQubits pxGates pnGates).ws.length) c_u31) 71 3 ((dRes pQubits pxGates pnGates).ws.length) (wls (dRes pQubits pxGates pnGates).ws), .own u1 54 3 pnGates (ints pxGates), .blk b1 24 [.int .i64 pQubits, pvGates]]
 refine .step rfl (.alloc (zs := [.int .i64 0, .slice none 0 0]) Tzero_34 fun b3 => ?_)
 refine Run.formOwn (.tail _ (.head _)) (fun A_u41 c_u41 hv hcapc_u41 hmaxc_u41 => ?_) (fun _ _ _ => ⟨nofun, nofun, nofun⟩)
 subst hv
 refine .step rfl (.storeAll (us := [.int .i64 pQubits, .slice A_u41 pnGates c_u41]) Tsize_34 rfl rfl rfl (.here _) rfl ?_)
 refine .dsr ?_
 refine .u (.agg #[.int .i64 pQubits, .slice A_u41 pnGates c_u41]) (.loadN (cs := [.int .i64 pQubits, .slice A_u41 pnGates c_u41]) Tagg_34 rfl (Cells.blk (.head _) ⟨rfl, rfl, trivial⟩)) ?_
 refine .step rfl (.c [.agg #[.int .i64 pQubits, .slice A_u41 pnGates c_u41]] Tcall_7 (fun w hs => DiagramOf_spec (hs.slOwn (.tail _ (.head _)))) ?_)
 rintro _ _ ⟨u5, u6, rfl, rfl⟩
 show Run _ _ (putF _ _ _ (.tuple #[.agg #[.int .i64 ((dRes pQubits pxGates pnGates).q), u5, u6, .int .i64 ((dRes pQubits pxGates pnGates).t), .int .i64 ((dRes pQubits pxGates pnGates).rt)], .bool (dOk pQubits pxGates pnGates)])) [.own u5 52 2 ((dRes pQubits pxGates pnGates).ns.length) (nds (dRes pQubits pxGates pnGates).ns), .own u6 71 3 ((dRes pQubits pxGates pnGates).ws.length) (wls (dRes pQubits pxGates pnGates).ws), .blk b3 34 [.int .i64 pQubits, .slice A_u41 pnGates c_u41], .own (.slice A_u41 pnGates c_u41) 54 3 pnGates (ints pxGates), .blk b2 29 [.int .i64 ((dRes pQubits pxGates pnGates).q), .slice A_u21 ((dRes pQubits pxGates pnGates).ns.length) c_u21, .slice A_u31 ((dRes pQubits pxGates pnGates).ws.length) c_u31, .int .i64 ((dRes pQubits pxGates pnGates).t), .int .i64 ((dRes pQubits pxGates pnGates).rt)], .own (.slice A_u21 ((dRes pQubits pxGates pnGates).ns.length) c_u21) 52 2 ((dRes pQubits pxGates pnGates).ns.length) (nds (dRes pQubits pxGates pnGates).ns), .own (.slice A_u31 ((dRes pQubits pxGates pnGates).ws.length) c_u31) 71 3 ((dRes pQubits pxGates pnGates).ws.length) (wls (dRes pQubits pxGates pnGates).ws), .own u1 54 3 pnGates (ints pxGates), .blk b1 24 [.int .i64 pQubits, pvGates]]
 refine .w (.tuple #[.agg #[.int .i64 ((dRes pQubits pxGates pnGates).q), u5, u6, .int .i64 ((dRes pQubits pxGates pnGates).t), .int .i64 ((dRes pQubits pxGates pnGates).rt)], .bool (dOk pQubits pxGates pnGates)]) ?_
 refine .w (.agg #[.int .i64 ((dRes pQubits pxGates pnGates).q), u5, u6, .int .i64 ((dRes pQubits pxGates pnGates).t), .int .i64 ((dRes pQubits pxGates pnGates).rt)]) ?_
 refine .w (.bool (dOk pQubits pxGates pnGates)) ?_
 refine .step rfl (.alloc (zs := [.int .i64 0, .slice none 0 0, .slice none 0 0, .int .i64 0, .int .i64 0]) Tzero_29 fun b4 => ?_)
 refine Run.formOwn (.tail _ (.head _)) (fun A_u51 c_u51 hv hcapc_u51 hmaxc_u51 => ?_) (fun _ _ _ => ⟨nofun, nofun, nofun⟩)
 subst hv
 refine Run.formOwn (.tail _ (.tail _ (.head _))) (fun A_u61 c_u61 hv hcapc_u61 hmaxc_u61 => ?_) (fun _ _ _ => ⟨nofun, nofun, nofun⟩)
 subst hv
 refine .step rfl (.storeAll (us := [.int .i64 ((dRes pQubits pxGates pnGates).q), .slice A_u51 ((dRes pQubits pxGates pnGates).ns.length) c_u51, .slice A_u61 ((dRes pQubits pxGates pnGates).ws.length) c_u61, .int .i64 ((dRes pQubits pxGates pnGates).t), .int .i64 ((dRes pQubits pxGates pnGates).rt)]) Tsize_29 rfl rfl rfl (.here _) rfl ?_)
 refine .m ?_
 refine .done ?_
 refine .seq ?_
 refine .sr ?_
 refine .u (.agg #[.int .i64 ((dRes pQubits pxGates pnGates).q), .slice A_u51 ((dRes pQubits pxGates pnGates).ns.length) c_u51, .slice A_u61 ((dRes pQubits pxGates pnGates).ws.length) c_u61, .int .i64 ((dRes pQubits pxGates pnGates).t), .int .i64 ((dRes pQubits pxGates pnGates).rt)]) (.loadN (cs := [.int .i64 ((dRes pQubits pxGates pnGates).q), .slice A_u51 ((dRes pQubits pxGates pnGates).ns.length) c_u51, .slice A_u61 ((dRes pQubits pxGates pnGates).ws.length) c_u61, .int .i64 ((dRes pQubits pxGates pnGates).t), .int .i64 ((dRes pQubits pxGates pnGates).rt)]) Tagg_29 rfl (Cells.blk (.head _) ⟨rfl, rfl, rfl, rfl, rfl, trivial⟩)) ?_
 refine .u (.agg #[.int .i64 ((dRes pQubits pxGates pnGates).q), .slice A_u21 ((dRes pQubits pxGates pnGates).ns.length) c_u21, .slice A_u31 ((dRes pQubits pxGates pnGates).ws.length) c_u31, .int .i64 ((dRes pQubits pxGates pnGates).t), .int .i64 ((dRes pQubits pxGates pnGates).rt)]) (.loadN (cs := [.int .i64 ((dRes pQubits pxGates pnGates).q), .slice A_u21 ((dRes pQubits pxGates pnGates).ns.length) c_u21, .slice A_u31 ((dRes pQubits pxGates pnGates).ws.length) c_u31, .int .i64 ((dRes pQubits pxGates pnGates).t), .int .i64 ((dRes pQubits pxGates pnGates).rt)]) Tagg_29 rfl (Cells.blk (.tail _ (.tail _ (.tail _ (.tail _ (.tail _ (.head _)))))) ⟨rfl, rfl, rfl, rfl, rfl, trivial⟩)) ?_
 refine .c (.bool true) [.agg #[.int .i64 ((dRes pQubits pxGates pnGates).q), .slice A_u51 ((dRes pQubits pxGates pnGates).ns.length) c_u51, .slice A_u61 ((dRes pQubits pxGates pnGates).ws.length) c_u61, .int .i64 ((dRes pQubits pxGates pnGates).t), .int .i64 ((dRes pQubits pxGates pnGates).rt)], .agg #[.int .i64 ((dRes pQubits pxGates pnGates).q), .slice A_u21 ((dRes pQubits pxGates pnGates).ns.length) c_u21, .slice A_u31 ((dRes pQubits pxGates pnGates).ws.length) c_u31, .int .i64 ((dRes pQubits pxGates pnGates).t), .int .i64 ((dRes pQubits pxGates pnGates).rt)]] Tcall_8 (fun w hs => eqDiagram_true (hs.slOwn (.tail _ (.head _))) (hs.slOwn (.tail _ (.tail _ (.head _)))) (hs.slOwn (.tail _ (.tail _ (.tail _ (.tail _ (.tail _ (.tail _ (.head _)))))))) (hs.slOwn (.tail _ (.tail _ (.tail _ (.tail _ (.tail _ (.tail _ (.tail _ (.head _)))))))))) ?_
 refine .w (.bool false) ?_
 iterate 3 refine .m ?_
 refine .u (.bool false) (.neqBSame Tbool_4 rfl rfl rfl) ?_
 refine .w (.bool false) ?_
 refine .done ?_
 refine .cond (b := false) rfl (fun h => nomatch h) (fun _ => ?_)
 refine .skip ?_
 refine .seq ?_
 refine .seq ?_
 refine .held (by kernel_rfl) ?_
 refine DW.t 0 rfl (Weak.refl _) (.agg #[.int .i64 pQubits, .slice A_u41 pnGates c_u41]) (.loadN (cs := [.int .i64 pQubits, .slice A_u41 pnGates c_u41]) Tagg_34 rfl (Cells.blk (.tail _ (.tail _ (.tail _ (.head _)))) ⟨rfl, rfl, trivial⟩)) ?_
 refine DW.t 1 rfl (Weak.refl _) (.agg #[.int .i64 pQubits, pvGates]) (.loadN (cs := [.int .i64 pQubits, pvGates]) Tagg_24 rfl (Cells.blk (.tail _ (.tail _ (.tail _ (.tail _ (.tail _ (.tail _ (.tail _ (.tail _ (.tail _ (.head _)))))))))) ⟨rfl, rfl, trivial⟩)) ?_
 refine DW.step (i := 2) (by kernel_rfl) rfl rfl (OpStep.c [.agg #[.int .i64 pQubits, pvGates]] Tcall_6 (fun w hs => toCircuit_spec (hs.sl phGates) (by omega)) ?_)
 rintro _ _ ⟨u7, rfl, rfl⟩
 refine ⟨(Some'.weak (.skip (.take (.take (.take (.take (.take (.take (.take (.take (.take (.take (.nil _))))))))))))), ?_⟩
 refine DW.step (i := 3) (by kernel_rfl) rfl rfl (OpStep.q (v := .bool true) (OpQ.call (vs := [.agg #[.int .i64 pQubits, .slice A_u41 pnGates c_u41], .agg #[.int .i64 pQubits, u7]]) (caps := []) Tcall_9 rfl rfl (fun w hs => eqCircuit_true (hs.slOwn (.tail _ (.tail _ (.tail _ (.tail _ (.tail _ (.head _))))))) (hs.slOwn (.head _)))) ?_)
 refine ⟨(Some'.weak (.skip (.take (.take (.take (.take (.take (.take (.take (.take (.take (.take (.nil _))))))))))))), ?_⟩
 refine DW.t 4 rfl (Some'.weak (.skip (.take (.take (.take (.take (.take (.take (.take (.take (.take (.take (.nil _))))))))))))) (.bool false) (.pure rfl) ?_
 refine DW.done (by kernel_rfl) ?_
 refine .cond (b := false) rfl (fun h => nomatch h) (fun _ => ?_)
 refine .skip ?_
 refine .sr ?_
 refine .m ?_
 refine .dsr ?_
 refine .u (.agg #[.int .i64 pQubits, .slice A_u41 pnGates c_u41]) (.loadN (cs := [.int .i64 pQubits, .slice A_u41 pnGates c_u41]) Tagg_34 rfl (Cells.blk (.tail _ (.tail _ (.tail _ (.tail _ (.head _))))) ⟨rfl, rfl, trivial⟩)) ?_
 refine .m ?_
 refine .step rfl (.callM (H1 := [.own (.slice A_u41 pnGates c_u41) 54 3 pnGates (ints pxGates)]) (H2 := [.own u7 54 3 pnGates (ints pxGates), .blk b4 29 [.int .i64 ((dRes pQubits pxGates pnGates).q), .slice A_u51 ((dRes pQubits pxGates pnGates).ns.length) c_u51, .slice A_u61 ((dRes pQubits pxGates pnGates).ws.length) c_u61, .int .i64 ((dRes pQubits pxGates pnGates).t), .int .i64 ((dRes pQubits pxGates pnGates).rt)], .own (.slice A_u51 ((dRes pQubits pxGates pnGates).ns.length) c_u51) 52 2 ((dRes pQubits pxGates pnGates).ns.length) (nds (dRes pQubits pxGates pnGates).ns), .own (.slice A_u61 ((dRes pQubits pxGates pnGates).ws.length) c_u61) 71 3 ((dRes pQubits pxGates pnGates).ws.length) (wls (dRes pQubits pxGates pnGates).ws), .blk b3 34 [.int .i64 pQubits, .slice A_u41 pnGates c_u41], .blk b2 29 [.int .i64 ((dRes pQubits pxGates pnGates).q), .slice A_u21 ((dRes pQubits pxGates pnGates).ns.length) c_u21, .slice A_u31 ((dRes pQubits pxGates pnGates).ws.length) c_u31, .int .i64 ((dRes pQubits pxGates pnGates).t), .int .i64 ((dRes pQubits pxGates pnGates).rt)], .own (.slice A_u21 ((dRes pQubits pxGates pnGates).ns.length) c_u21) 52 2 ((dRes pQubits pxGates pnGates).ns.length) (nds (dRes pQubits pxGates pnGates).ns), .own (.slice A_u31 ((dRes pQubits pxGates pnGates).ws.length) c_u31) 71 3 ((dRes pQubits pxGates pnGates).ws.length) (wls (dRes pQubits pxGates pnGates).ws), .own u1 54 3 pnGates (ints pxGates), .blk b1 24 [.int .i64 pQubits, pvGates]]) (vs := [.agg #[.int .i64 pQubits, .slice A_u41 pnGates c_u41], .int .i64 1]) (caps := []) Tcall_10 rfl rfl (Weak.selF [5]) (fun w hs => markCircuit_spec (hs.sub (List.sublist_append_left _ _)).self (by omega) (by omega)) ?_)
 rintro _ _ ⟨rfl, rfl⟩
 show Run _ _ (putF _ _ _ (.int .i64 (1 + ((pnGates : Nat) : Int) * 3))) [.own (.slice A_u41 pnGates c_u41) 54 3 pnGates (ints (mks 1 (pnGates * 3))), .own u7 54 3 pnGates (ints pxGates), .blk b4 29 [.int .i64 ((dRes pQubits pxGates pnGates).q), .slice A_u51 ((dRes pQubits pxGates pnGates).ns.length) c_u51, .slice A_u61 ((dRes pQubits pxGates pnGates).ws.length) c_u61, .int .i64 ((dRes pQubits pxGates pnGates).t), .int .i64 ((dRes pQubits pxGates pnGates).rt)], .own (.slice A_u51 ((dRes pQubits pxGates pnGates).ns.length) c_u51) 52 2 ((dRes pQubits pxGates pnGates).ns.length) (nds (dRes pQubits pxGates pnGates).ns), .own (.slice A_u61 ((dRes pQubits pxGates pnGates).ws.length) c_u61) 71 3 ((dRes pQubits pxGates pnGates).ws.length) (wls (dRes pQubits pxGates pnGates).ws), .blk b3 34 [.int .i64 pQubits, .slice A_u41 pnGates c_u41], .blk b2 29 [.int .i64 ((dRes pQubits pxGates pnGates).q), .slice A_u21 ((dRes pQubits pxGates pnGates).ns.length) c_u21, .slice A_u31 ((dRes pQubits pxGates pnGates).ws.length) c_u31, .int .i64 ((dRes pQubits pxGates pnGates).t), .int .i64 ((dRes pQubits pxGates pnGates).rt)], .own (.slice A_u21 ((dRes pQubits pxGates pnGates).ns.length) c_u21) 52 2 ((dRes pQubits pxGates pnGates).ns.length) (nds (dRes pQubits pxGates pnGates).ns), .own (.slice A_u31 ((dRes pQubits pxGates pnGates).ws.length) c_u31) 71 3 ((dRes pQubits pxGates pnGates).ws.length) (wls (dRes pQubits pxGates pnGates).ws), .own u1 54 3 pnGates (ints pxGates), .blk b1 24 [.int .i64 pQubits, pvGates]]
 refine .m ?_
 refine .done ?_
 refine .seq ?_
 refine .sr ?_
 refine .m ?_
 refine .w (.bool (decide ((1 + ((pnGates : Nat) : Int) * 3) < 0))) ?_
 rcases Bool.eq_false_or_eq_true (decide ((1 + ((pnGates : Nat) : Int) * 3) < 0)) with h51 | h51
 ·exact absurd h51 (by simp <;> omega) --DONE
 refine .mb h51 ?_
 have p51 := h51; try simp only [bs] at p51
 refine .u (.agg #[.int .i64 ((dRes pQubits pxGates pnGates).q), .slice A_u51 ((dRes pQubits pxGates pnGates).ns.length) c_u51, .slice A_u61 ((dRes pQubits pxGates pnGates).ws.length) c_u61, .int .i64 ((dRes pQubits pxGates pnGates).t), .int .i64 ((dRes pQubits pxGates pnGates).rt)]) (.loadN (cs := [.int .i64 ((dRes pQubits pxGates pnGates).q), .slice A_u51 ((dRes pQubits pxGates pnGates).ns.length) c_u51, .slice A_u61 ((dRes pQubits pxGates pnGates).ws.length) c_u61, .int .i64 ((dRes pQubits pxGates pnGates).t), .int .i64 ((dRes pQubits pxGates pnGates).rt)]) Tagg_29 rfl (Cells.blk (.tail _ (.tail _ (.head _))) ⟨rfl, rfl, rfl, rfl, rfl, trivial⟩)) ?_
 refine .u (.agg #[.int .i64 ((dRes pQubits pxGates pnGates).q), .slice A_u21 ((dRes pQubits pxGates pnGates).ns.length) c_u21, .slice A_u31 ((dRes pQubits pxGates pnGates).ws.length) c_u31, .int .i64 ((dRes pQubits pxGates pnGates).t), .int .i64 ((dRes pQubits pxGates pnGates).rt)]) (.loadN (cs := [.int .i64 ((dRes pQubits pxGates pnGates).q), .slice A_u21 ((dRes pQubits pxGates pnGates).ns.length) c_u21, .slice A_u31 ((dRes pQubits pxGates pnGates).ws.length) c_u31, .int .i64 ((dRes pQubits pxGates pnGates).t), .int .i64 ((dRes pQubits pxGates pnGates).rt)]) Tagg_29 rfl (Cells.blk (.tail _ (.tail _ (.tail _ (.tail _ (.tail _ (.tail _ (.head _))))))) ⟨rfl, rfl, rfl, rfl, rfl, trivial⟩)) ?_
 refine .c (.bool true) [.agg #[.int .i64 ((dRes pQubits pxGates pnGates).q), .slice A_u51 ((dRes pQubits pxGates pnGates).ns.length) c_u51, .slice A_u61 ((dRes pQubits pxGates pnGates).ws.length) c_u61, .int .i64 ((dRes pQubits pxGates pnGates).t), .int .i64 ((dRes pQubits pxGates pnGates).rt)], .agg #[.int .i64 ((dRes pQubits pxGates pnGates).q), .slice A_u21 ((dRes pQubits pxGates pnGates).ns.length) c_u21, .slice A_u31 ((dRes pQubits pxGates pnGates).ws.length) c_u31, .int .i64 ((dRes pQubits pxGates pnGates).t), .int .i64 ((dRes pQubits pxGates pnGates).rt)]] Tcall_8 (fun w hs => eqDiagram_true (hs.slOwn (.tail _ (.tail _ (.tail _ (.head _))))) (hs.slOwn (.tail _ (.tail _ (.tail _ (.tail _ (.head _)))))) (hs.slOwn (.tail _ (.tail _ (.tail _ (.tail _ (.tail _ (.tail _ (.tail _ (.head _))))))))) (hs.slOwn (.tail _ (.tail _ (.tail _ (.tail _ (.tail _ (.tail _ (.tail _ (.tail _ (.head _))))))))))) ?_
 refine .w (.bool false) ?_
 refine .w (.bool false) ?_
 iterate 3 refine .m ?_
 refine .u (.bool false) (.neqBSame Tbool_4 rfl rfl rfl) ?_
 refine .w (.bool false) ?_
 refine .done ?_
 refine .cond (b := false) rfl (fun h => nomatch h) (fun _ => ?_)
 refine .skip ?_
 refine .sr ?_
 refine .m ?_
 refine .dsr ?_
 refine .u (.agg #[.int .i64 ((dRes pQubits pxGates pnGates).q), .slice A_u51 ((dRes pQubits pxGates pnGates).ns.length) c_u51, .slice A_u61 ((dRes pQubits pxGates pnGates).ws.length) c_u61, .int .i64 ((dRes pQubits pxGates pnGates).t), .int .i64 ((dRes pQubits pxGates pnGates).rt)]) (.loadN (cs := [.int .i64 ((dRes pQubits pxGates pnGates).q), .slice A_u51 ((dRes pQubits pxGates pnGates).ns.length) c_u51, .slice A_u61 ((dRes pQubits pxGates pnGates).ws.length) c_u61, .int .i64 ((dRes pQubits pxGates pnGates).t), .int .i64 ((dRes pQubits pxGates pnGates).rt)]) Tagg_29 rfl (Cells.blk (.tail _ (.tail _ (.head _))) ⟨rfl, rfl, rfl, rfl, rfl, trivial⟩)) ?_
 refine .m ?_
 refine .step rfl (.callM (H1 := [.own (.slice A_u51 ((dRes pQubits pxGates pnGates).ns.length) c_u51) 52 2 ((dRes pQubits pxGates pnGates).ns.length) (nds (dRes pQubits pxGates pnGates).ns), .own (.slice A_u61 ((dRes pQubits pxGates pnGates).ws.length) c_u61) 71 3 ((dRes pQubits pxGates pnGates).ws.length) (wls (dRes pQubits pxGates pnGates).ws)]) (H2 := [.own (.slice A_u41 pnGates c_u41) 54 3 pnGates (ints (mks 1 (pnGates * 3))), .own u7 54 3 pnGates (ints pxGates), .blk b4 29 [.int .i64 ((dRes pQubits pxGates pnGates).q), .slice A_u51 ((dRes pQubits pxGates pnGates).ns.length) c_u51, .slice A_u61 ((dRes pQubits pxGates pnGates).ws.length) c_u61, .int .i64 ((dRes pQubits pxGates pnGates).t), .int .i64 ((dRes pQubits pxGates pnGates).rt)], .blk b3 34 [.int .i64 pQubits, .slice A_u41 pnGates c_u41], .blk b2 29 [.int .i64 ((dRes pQubits pxGates pnGates).q), .slice A_u21 ((dRes pQubits pxGates pnGates).ns.length) c_u21, .slice A_u31 ((dRes pQubits pxGates pnGates).ws.length) c_u31, .int .i64 ((dRes pQubits pxGates pnGates).t), .int .i64 ((dRes pQubits pxGates pnGates).rt)], .own (.slice A_u21 ((dRes pQubits pxGates pnGates).ns.length) c_u21) 52 2 ((dRes pQubits pxGates pnGates).ns.length) (nds (dRes pQubits pxGates pnGates).ns), .own (.slice A_u31 ((dRes pQubits pxGates pnGates).ws.length) c_u31) 71 3 ((dRes pQubits pxGates pnGates).ws.length) (wls (dRes pQubits pxGates pnGates).ws), .own u1 54 3 pnGates (ints pxGates), .blk b1 24 [.int .i64 pQubits, pvGates]]) (vs := [.agg #[.int .i64 ((dRes pQubits pxGates pnGates).q), .slice A_u51 ((dRes pQubits pxGates pnGates).ns.length) c_u51, .slice A_u61 ((dRes pQubits pxGates pnGates).ws.length) c_u61, .int .i64 ((dRes pQubits pxGates pnGates).t), .int .i64 ((dRes pQubits pxGates pnGates).rt)], .int .i64 1]) (caps := []) Tcall_11 rfl rfl (Weak.selF [3, 3]) (fun w hs => markDiagram_spec (hs.sub (List.sublist_append_left _ _)).self (by omega) (by omega)) ?_)
 rintro _ _ ⟨rfl, rfl⟩
 show Run _ _ (putF _ _ _ (.int .i64 (1 + (((dRes pQubits pxGates pnGates).ns.length : Nat) : Int) * 2 + (((dRes pQubits pxGates pnGates).ws.length : Nat) : Int) * 3))) [.own (.slice A_u51 ((dRes pQubits pxGates pnGates).ns.length) c_u51) 52 2 ((dRes pQubits pxGates pnGates).ns.length) (ints (mks 1 ((dRes pQubits pxGates pnGates).ns.length * 2))), .own (.slice A_u61 ((dRes pQubits pxGates pnGates).ws.length) c_u61) 71 3 ((dRes pQubits pxGates pnGates).ws.length) (wls (mkW (1 + (((dRes pQubits pxGates pnGates).ns.length : Nat) : Int) * 2) ((dRes pQubits pxGates pnGates).ws.length))), .own (.slice A_u41 pnGates c_u41) 54 3 pnGates (ints (mks 1 (pnGates * 3))), .own u7 54 3 pnGates (ints pxGates), .blk b4 29 [.int .i64 ((dRes pQubits pxGates pnGates).q), .slice A_u51 ((dRes pQubits pxGates pnGates).ns.length) c_u51, .slice A_u61 ((dRes pQubits pxGates pnGates).ws.length) c_u61, .int .i64 ((dRes pQubits pxGates pnGates).t), .int .i64 ((dRes pQubits pxGates pnGates).rt)], .blk b3 34 [.int .i64 pQubits, .slice A_u41 pnGates c_u41], .blk b2 29 [.int .i64 ((dRes pQubits pxGates pnGates).q), .slice A_u21 ((dRes pQubits pxGates pnGates).ns.length) c_u21, .slice A_u31 ((dRes pQubits pxGates pnGates).ws.length) c_u31, .int .i64 ((dRes pQubits pxGates pnGates).t), .int .i64 ((dRes pQubits pxGates pnGates).rt)], .own (.slice A_u21 ((dRes pQubits pxGates pnGates).ns.length) c_u21) 52 2 ((dRes pQubits pxGates pnGates).ns.length) (nds (dRes pQubits pxGates pnGates).ns), .own (.slice A_u31 ((dRes pQubits pxGates pnGates).ws.length) c_u31) 71 3 ((dRes pQubits pxGates pnGates).ws.length) (wls (dRes pQubits pxGates pnGates).ws), .own u1 54 3 pnGates (ints pxGates), .blk b1 24 [.int .i64 pQubits, pvGates]]
 refine .m ?_
 refine .dsr ?_
 refine .m ?_
 refine .dsr ?_
 refine .u (.agg #[.int .i64 ((dRes pQubits pxGates pnGates).q), .slice A_u51 ((dRes pQubits pxGates pnGates).ns.length) c_u51, .slice A_u61 ((dRes pQubits pxGates pnGates).ws.length) c_u61, .int .i64 ((dRes pQubits pxGates pnGates).t), .int .i64 ((dRes pQubits pxGates pnGates).rt)]) (.loadN (cs := [.int .i64 ((dRes pQubits pxGates pnGates).q), .slice A_u51 ((dRes pQubits pxGates pnGates).ns.length) c_u51, .slice A_u61 ((dRes pQubits pxGates pnGates).ws.length) c_u61, .int .i64 ((dRes pQubits pxGates pnGates).t), .int .i64 ((dRes pQubits pxGates pnGates).rt)]) Tagg_29 rfl (Cells.blk (.tail _ (.tail _ (.tail _ (.tail _ (.head _))))) ⟨rfl, rfl, rfl, rfl, rfl, trivial⟩)) ?_
 refine .m ?_
 refine .c (.int .i64 (1 + (((dRes pQubits pxGates pnGates).ns.length : Nat) : Int) * 2 + (((dRes pQubits pxGates pnGates).ws.length : Nat) : Int) * 3)) [.agg #[.int .i64 ((dRes pQubits pxGates pnGates).q), .slice A_u51 ((dRes pQubits pxGates pnGates).ns.length) c_u51, .slice A_u61 ((dRes pQubits pxGates pnGates).ws.length) c_u61, .int .i64 ((dRes pQubits pxGates pnGates).t), .int .i64 ((dRes pQubits pxGates pnGates).rt)], .int .i64 1] Tcall_12 (fun w hs => heldDiagram_true (hs.slOwn (.head _)) (hs.slOwn (.tail _ (.head _))) (by omega) (by omega)) ?_
 refine .m ?_
 refine .done ?_
 refine .seq ?_
 refine .sr ?_
 refine .m ?_
 refine .w (.bool (decide ((1 + (((dRes pQubits pxGates pnGates).ns.length : Nat) : Int) * 2 + (((dRes pQubits pxGates pnGates).ws.length : Nat) : Int) * 3) < 0))) ?_
 refine .done ?_
 refine .cond (b := decide ((1 + (((dRes pQubits pxGates pnGates).ns.length : Nat) : Int) * 2 + (((dRes pQubits pxGates pnGates).ws.length : Nat) : Int) * 3) < 0)) rfl (fun h69 => ?_) (fun h69 => ?_)
 ·have p69 := h69; try simp only [bs] at p69
  exact absurd h69 (by simp <;> omega) --DONE
 have p69 := h69; try simp only [bs] at p69
 refine .skip ?_
 refine .seq ?_
 refine .sr ?_
 iterate 2 refine .m ?_
 refine .u (.bool false) (.neqSame rfl rfl rfl) ?_
 refine .done ?_
 refine .cond (b := false) rfl (fun h => nomatch h) (fun _ => ?_)
 refine .skip ?_
 refine .sr ?_
 refine .u (.agg #[.int .i64 pQubits, pvGates]) (.loadN (cs := [.int .i64 pQubits, pvGates]) Tagg_24 rfl (Cells.blk (.tail _ (.tail _ (.tail _ (.tail _ (.tail _ (.tail _ (.tail _ (.tail _ (.tail _ (.tail _ (.head _))))))))))) ⟨rfl, rfl, trivial⟩)) ?_
 refine .step rfl (.c [.agg #[.int .i64 pQubits, pvGates]] Tcall_6 (fun w hs => toCircuit_spec (hs.sl phGates) (by omega)) ?_)
 rintro _ _ ⟨u8, rfl, rfl⟩
 show Run _ _ (putF _ _ _ (.agg #[.int .i64 pQubits, u8])) [.own u8 54 3 pnGates (ints pxGates), .own (.slice A_u51 ((dRes pQubits pxGates pnGates).ns.length) c_u51) 52 2 ((dRes pQubits pxGates pnGates).ns.length) (ints (mks 1 ((dRes pQubits pxGates pnGates).ns.length * 2))), .own (.slice A_u61 ((dRes pQubits pxGates pnGates).ws.length) c_u61) 71 3 ((dRes pQubits pxGates pnGates).ws.length) (wls (mkW (1 + (((dRes pQubits pxGates pnGates).ns.length : Nat) : Int) * 2) ((dRes pQubits pxGates pnGates).ws.length))), .own (.slice A_u41 pnGates c_u41) 54 3 pnGates (ints (mks 1 (pnGates * 3))), .own u7 54 3 pnGates (ints pxGates), .blk b4 29 [.int .i64 ((dRes pQubits pxGates pnGates).q), .slice A_u51 ((dRes pQubits pxGates pnGates).ns.length) c_u51, .slice A_u61 ((dRes pQubits pxGates pnGates).ws.length) c_u61, .int .i64 ((dRes pQubits pxGates pnGates).t), .int .i64 ((dRes pQubits pxGates pnGates).rt)], .blk b3 34 [.int .i64 pQubits, .slice A_u41 pnGates c_u41], .blk b2 29 [.int .i64 ((dRes pQubits pxGates pnGates).q), .slice A_u21 ((dRes pQubits pxGates pnGates).ns.length) c_u21, .slice A_u31 ((dRes pQubits pxGates pnGates).ws.length) c_u31, .int .i64 ((dRes pQubits pxGates pnGates).t), .int .i64 ((dRes pQubits pxGates pnGates).rt)], .own (.slice A_u21 ((dRes pQubits pxGates pnGates).ns.length) c_u21) 52 2 ((dRes pQubits pxGates pnGates).ns.length) (nds (dRes pQubits pxGates pnGates).ns), .own (.slice A_u31 ((dRes pQubits pxGates pnGates).ws.length) c_u31) 71 3 ((dRes pQubits pxGates pnGates).ws.length) (wls (dRes pQubits pxGates pnGates).ws), .own u1 54 3 pnGates (ints pxGates), .blk b1 24 [.int .i64 pQubits, pvGates]]
 refine .step rfl (.c [.agg #[.int .i64 pQubits, u8]] Tcall_7 (fun w hs => DiagramOf_spec (hs.slOwn (.head _))) ?_)
 rintro _ _ ⟨u9, u10, rfl, rfl⟩
 show Run _ _ (putF _ _ _ (.tuple #[.agg #[.int .i64 ((dRes pQubits pxGates pnGates).q), u9, u10, .int .i64 ((dRes pQubits pxGates pnGates).t), .int .i64 ((dRes pQubits pxGates pnGates).rt)], .bool (dOk pQubits pxGates pnGates)])) [.own u9 52 2 ((dRes pQubits pxGates pnGates).ns.length) (nds (dRes pQubits pxGates pnGates).ns), .own u10 71 3 ((dRes pQubits pxGates pnGates).ws.length) (wls (dRes pQubits pxGates pnGates).ws), .own u8 54 3 pnGates (ints pxGates), .own (.slice A_u51 ((dRes pQubits pxGates pnGates).ns.length) c_u51) 52 2 ((dRes pQubits pxGates pnGates).ns.length) (ints (mks 1 ((dRes pQubits pxGates pnGates).ns.length * 2))), .own (.slice A_u61 ((dRes pQubits pxGates pnGates).ws.length) c_u61) 71 3 ((dRes pQubits pxGates pnGates).ws.length) (wls (mkW (1 + (((dRes pQubits pxGates pnGates).ns.length : Nat) : Int) * 2) ((dRes pQubits pxGates pnGates).ws.length))), .own (.slice A_u41 pnGates c_u41) 54 3 pnGates (ints (mks 1 (pnGates * 3))), .own u7 54 3 pnGates (ints pxGates), .blk b4 29 [.int .i64 ((dRes pQubits pxGates pnGates).q), .slice A_u51 ((dRes pQubits pxGates pnGates).ns.length) c_u51, .slice A_u61 ((dRes pQubits pxGates pnGates).ws.length) c_u61, .int .i64 ((dRes pQubits pxGates pnGates).t), .int .i64 ((dRes pQubits pxGates pnGates).rt)], .blk b3 34 [.int .i64 pQubits, .slice A_u41 pnGates c_u41], .blk b2 29 [.int .i64 ((dRes pQubits pxGates pnGates).q), .slice A_u21 ((dRes pQubits pxGates pnGates).ns.length) c_u21, .slice A_u31 ((dRes pQubits pxGates pnGates).ws.length) c_u31, .int .i64 ((dRes pQubits pxGates pnGates).t), .int .i64 ((dRes pQubits pxGates pnGates).rt)], .own (.slice A_u21 ((dRes pQubits pxGates pnGates).ns.length) c_u21) 52 2 ((dRes pQubits pxGates pnGates).ns.length) (nds (dRes pQubits pxGates pnGates).ns), .own (.slice A_u31 ((dRes pQubits pxGates pnGates).ws.length) c_u31) 71 3 ((dRes pQubits pxGates pnGates).ws.length) (wls (dRes pQubits pxGates pnGates).ws), .own u1 54 3 pnGates (ints pxGates), .blk b1 24 [.int .i64 pQubits, pvGates]]
 refine .w (.tuple #[.agg #[.int .i64 ((dRes pQubits pxGates pnGates).q), u9, u10, .int .i64 ((dRes pQubits pxGates pnGates).t), .int .i64 ((dRes pQubits pxGates pnGates).rt)], .bool (dOk pQubits pxGates pnGates)]) ?_
 refine .w (.agg #[.int .i64 ((dRes pQubits pxGates pnGates).q), u9, u10, .int .i64 ((dRes pQubits pxGates pnGates).t), .int .i64 ((dRes pQubits pxGates pnGates).rt)]) ?_
 refine .w (.bool (dOk pQubits pxGates pnGates)) ?_
 refine .step rfl (.alloc (zs := [.int .i64 0, .slice none 0 0, .slice none 0 0, .int .i64 0, .int .i64 0]) Tzero_29 fun b5 => ?_)
 refine Run.formOwn (.tail _ (.head _)) (fun A_u91 c_u91 hv hcapc_u91 hmaxc_u91 => ?_) (fun _ _ _ => ⟨nofun, nofun, nofun⟩)
 subst hv
 refine Run.formOwn (.tail _ (.tail _ (.head _))) (fun A_u101 c_u101 hv hcapc_u101 hmaxc_u101 => ?_) (fun _ _ _ => ⟨nofun, nofun, nofun⟩)
 subst hv
 refine .step rfl (.storeAll (us := [.int .i64 ((dRes pQubits pxGates pnGates).q), .slice A_u91 ((dRes pQubits pxGates pnGates).ns.length) c_u91, .slice A_u101 ((dRes pQubits pxGates pnGates).ws.length) c_u101, .int .i64 ((dRes pQubits pxGates pnGates).t), .int .i64 ((dRes pQubits pxGates pnGates).rt)]) Tsize_29 rfl rfl rfl (.here _) rfl ?_)
 refine .m ?_
 refine .done ?_
 refine .seq ?_
 refine .sr ?_
 refine .u (.agg #[.int .i64 ((dRes pQubits pxGates pnGates).q), .slice A_u91 ((dRes pQubits pxGates pnGates).ns.length) c_u91, .slice A_u101 ((dRes pQubits pxGates pnGates).ws.length) c_u101, .int .i64 ((dRes pQubits pxGates pnGates).t), .int .i64 ((dRes pQubits pxGates pnGates).rt)]) (.loadN (cs := [.int .i64 ((dRes pQubits pxGates pnGates).q), .slice A_u91 ((dRes pQubits pxGates pnGates).ns.length) c_u91, .slice A_u101 ((dRes pQubits pxGates pnGates).ws.length) c_u101, .int .i64 ((dRes pQubits pxGates pnGates).t), .int .i64 ((dRes pQubits pxGates pnGates).rt)]) Tagg_29 rfl (Cells.blk (.head _) ⟨rfl, rfl, rfl, rfl, rfl, trivial⟩)) ?_
 refine .u (.agg #[.int .i64 ((dRes pQubits pxGates pnGates).q), .slice A_u21 ((dRes pQubits pxGates pnGates).ns.length) c_u21, .slice A_u31 ((dRes pQubits pxGates pnGates).ws.length) c_u31, .int .i64 ((dRes pQubits pxGates pnGates).t), .int .i64 ((dRes pQubits pxGates pnGates).rt)]) (.loadN (cs := [.int .i64 ((dRes pQubits pxGates pnGates).q), .slice A_u21 ((dRes pQubits pxGates pnGates).ns.length) c_u21, .slice A_u31 ((dRes pQubits pxGates pnGates).ws.length) c_u31, .int .i64 ((dRes pQubits pxGates pnGates).t), .int .i64 ((dRes pQubits pxGates pnGates).rt)]) Tagg_29 rfl (Cells.blk (.tail _ (.tail _ (.tail _ (.tail _ (.tail _ (.tail _ (.tail _ (.tail _ (.tail _ (.tail _ (.head _))))))))))) ⟨rfl, rfl, rfl, rfl, rfl, trivial⟩)) ?_
 refine .c (.bool true) [.agg #[.int .i64 ((dRes pQubits pxGates pnGates).q), .slice A_u91 ((dRes pQubits pxGates pnGates).ns.length) c_u91, .slice A_u101 ((dRes pQubits pxGates pnGates).ws.length) c_u101, .int .i64 ((dRes pQubits pxGates pnGates).t), .int .i64 ((dRes pQubits pxGates pnGates).rt)], .agg #[.int .i64 ((dRes pQubits pxGates pnGates).q), .slice A_u21 ((dRes pQubits pxGates pnGates).ns.length) c_u21, .slice A_u31 ((dRes pQubits pxGates pnGates).ws.length) c_u31, .int .i64 ((dRes pQubits pxGates pnGates).t), .int .i64 ((dRes pQubits pxGates pnGates).rt)]] Tcall_8 (fun w hs => eqDiagram_true (hs.slOwn (.tail _ (.head _))) (hs.slOwn (.tail _ (.tail _ (.head _)))) (hs.slOwn (.tail _ (.tail _ (.tail _ (.tail _ (.tail _ (.tail _ (.tail _ (.tail _ (.tail _ (.tail _ (.tail _ (.head _))))))))))))) (hs.slOwn (.tail _ (.tail _ (.tail _ (.tail _ (.tail _ (.tail _ (.tail _ (.tail _ (.tail _ (.tail _ (.tail _ (.tail _ (.head _))))))))))))))) ?_
 refine .w (.bool false) ?_
 iterate 3 refine .m ?_
 refine .u (.bool false) (.neqBSame Tbool_4 rfl rfl rfl) ?_
 refine .w (.bool false) ?_
 refine .done ?_
 refine .cond (b := false) rfl (fun h => nomatch h) (fun _ => ?_)
 refine .skip ?_
 refine .sr ?_
 refine .m ?_
 refine .dsr ?_
 refine .u (.agg #[.int .i64 ((dRes pQubits pxGates pnGates).q), .slice A_u51 ((dRes pQubits pxGates pnGates).ns.length) c_u51, .slice A_u61 ((dRes pQubits pxGates pnGates).ws.length) c_u61, .int .i64 ((dRes pQubits pxGates pnGates).t), .int .i64 ((dRes pQubits pxGates pnGates).rt)]) (.loadN (cs := [.int .i64 ((dRes pQubits pxGates pnGates).q), .slice A_u51 ((dRes pQubits pxGates pnGates).ns.length) c_u51, .slice A_u61 ((dRes pQubits pxGates pnGates).ws.length) c_u61, .int .i64 ((dRes pQubits pxGates pnGates).t), .int .i64 ((dRes pQubits pxGates pnGates).rt)]) Tagg_29 rfl (Cells.blk (.tail _ (.tail _ (.tail _ (.tail _ (.tail _ (.tail _ (.tail _ (.tail _ (.head _))))))))) ⟨rfl, rfl, rfl, rfl, rfl, trivial⟩)) ?_
 refine .m ?_
 refine .c (.int .i64 (1 + (((dRes pQubits pxGates pnGates).ns.length : Nat) : Int) * 2 + (((dRes pQubits pxGates pnGates).ws.length : Nat) : Int) * 3)) [.agg #[.int .i64 ((dRes pQubits pxGates pnGates).q), .slice A_u51 ((dRes pQubits pxGates pnGates).ns.length) c_u51, .slice A_u61 ((dRes pQubits pxGates pnGates).ws.length) c_u61, .int .i64 ((dRes pQubits pxGates pnGates).t), .int .i64 ((dRes pQubits pxGates pnGates).rt)], .int .i64 1] Tcall_12 (fun w hs => heldDiagram_true (hs.slOwn (.tail _ (.tail _ (.tail _ (.tail _ (.head _)))))) (hs.slOwn (.tail _ (.tail _ (.tail _ (.tail _ (.tail _ (.head _))))))) (by omega) (by omega)) ?_
 refine .m ?_
 refine .done ?_
 refine .seq ?_
 refine .sr ?_
 refine .m ?_
 refine .w (.bool (decide ((1 + (((dRes pQubits pxGates pnGates).ns.length : Nat) : Int) * 2 + (((dRes pQubits pxGates pnGates).ws.length : Nat) : Int) * 3) < 0))) ?_
 refine .done ?_
 refine .cond (b := decide ((1 + (((dRes pQubits pxGates pnGates).ns.length : Nat) : Int) * 2 + (((dRes pQubits pxGates pnGates).ws.length : Nat) : Int) * 3) < 0)) rfl (fun h92 => ?_) (fun h92 => ?_)
 ·have p92 := h92; try simp only [bs] at p92
  exact absurd h92 (by simp <;> omega) --DONE
 have p92 := h92; try simp only [bs] at p92
 refine .skip ?_
 refine .seq ?_
 refine .sr ?_
 iterate 2 refine .m ?_
 refine .u (.bool false) (.neqSame rfl rfl rfl) ?_
 refine .done ?_
 refine .cond (b := false) rfl (fun h => nomatch h) (fun _ => ?_)
 refine .skip ?_
 refine .sr ?_
 refine .m ?_
 refine .done ?_
 refine .ret ?_
 refine ⟨.bool true, [], Out.one rfl rfl, (Some'.weak (.nil _)), ?_⟩
 rfl

end Go.Proofs.Ytnnkoeknejeieaa
