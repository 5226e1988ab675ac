/- The walk of the law FnExactBestRoute. -/
import Derived.Test.YtekikmdjldincaaQ14
import Derived.Test.YtekikmdjldincaaQ5
import Derived.Test.YtekikmdjldincaaProg
set_option linter.unusedSimpArgs false
set_option linter.unusedVariables false
namespace Go.Proofs.Ytekikmdjldincaa
open Go Go.RowKit
namespace L50T
theorem Tagg_24 : aggOf Try.prog 24 = some 2 := by kernel_rfl
theorem Tagg_27 : aggOf Try.prog 27 = some 2 := by kernel_rfl
theorem Tagg_35 : aggOf Try.prog 35 = some 2 := by kernel_rfl
theorem Tagg_39 : aggOf Try.prog 39 = some 2 := by kernel_rfl
theorem Tagg_48 : aggOf Try.prog 48 = some 2 := by kernel_rfl
theorem Tbool_4 : Try.prog.underlying 4 = some .bool := by kernel_rfl
theorem Tcall_10 : callable Try.prog 10 = true := by kernel_rfl
theorem Tcall_13 : callable Try.prog 13 = true := by kernel_rfl
theorem Tcall_14 : callable Try.prog 14 = true := by kernel_rfl
theorem Tcall_18 : callable Try.prog 18 = true := by kernel_rfl
theorem Tcall_19 : callable Try.prog 19 = true := by kernel_rfl
theorem Tcall_20 : callable Try.prog 20 = true := by kernel_rfl
theorem Tcall_22 : callable Try.prog 22 = true := by kernel_rfl
theorem Tcall_23 : callable Try.prog 23 = true := by kernel_rfl
theorem Tcall_24 : callable Try.prog 24 = true := by kernel_rfl
theorem Tcall_25 : callable Try.prog 25 = true := by kernel_rfl
theorem Tcall_6 : callable Try.prog 6 = true := by kernel_rfl
theorem Tcall_7 : callable Try.prog 7 = true := by kernel_rfl
theorem Tcall_9 : callable Try.prog 9 = true := by kernel_rfl
theorem Tsize_35 : (Try.prog.info? 35).map (·.size) = some 2 := by kernel_rfl
theorem Tsize_39 : (Try.prog.info? 39).map (·.size) = some 2 := by kernel_rfl
theorem Tsize_48 : (Try.prog.info? 48).map (·.size) = some 2 := by kernel_rfl
theorem Tzero_35 : zeroOf Try.prog 35 = some [.int .i64 0, .slice none 0 0] := by kernel_rfl
theorem Tzero_39 : zeroOf Try.prog 39 = some [.int .i64 0, .slice none 0 0] := by kernel_rfl
theorem Tzero_48 : zeroOf Try.prog 48 = some [.slice none 0 0, .slice none 0 0] := by kernel_rfl
end L50T
open L50T
set_option maxHeartbeats 1000000 in
set_option maxRecDepth 20000 in
theorem law_spec {gNodes : Int} {gvEdges : Value} {gnEdges : Nat} {gxEdges : List Int} {cQubits : Int} {cvGates : Value} {cnGates : Nat} {cxGates : List Int} {w : World} (gwNodes : In64 gNodes) (ghEdges : Sl w gvEdges 2 gnEdges (ints gxEdges)) (gwEdges : ∀ x ∈ gxEdges, In64 x) (cwQubits : In64 cQubits) (chGates : Sl w cvGates 3 cnGates (ints cxGates)) (cwGates : ∀ x ∈ cxGates, In64 x) : Calls Try.prog 5 #[.agg #[.int .i64 gNodes, gvEdges], .agg #[.int .i64 cQubits, cvGates]] w (Post No w fun v _ => v = .bool true) := by
  obtain ⟨M, hM⟩ : ∃ M : Nat, 12800000 < M := ⟨12800001, by decide⟩
  obtain ⟨hlen1, hlen2⟩ := br_bnd (N := gNodes) (es := gxEdges) (m := gnEdges) (Q := cQubits) (xs := cxGates) (n := cnGates) hM
  obtain ⟨pl, hpl⟩ : ∃ x, brS M gNodes gxEdges gnEdges cQubits cxGates cnGates = x := ⟨_, rfl⟩
  obtain ⟨tl, htl⟩ : ∃ x, brL M gNodes gxEdges gnEdges cQubits cxGates cnGates = x := ⟨_, rfl⟩
  obtain ⟨ok, hok⟩ : ∃ x, brB M gNodes gxEdges gnEdges cQubits cxGates cnGates = x := ⟨_, rfl⟩
  rw [hpl] at hlen1
  rw [htl] at hlen2
  refine enter (n := 119) (args := [.agg #[.int .i64 gNodes, gvEdges], .agg #[.int .i64 cQubits, cvGates]]) Try.func5 rfl rfl (St.empty _ _) ?_
  refine Run.seq ?_
  refine Run.region ?_
  refine Run.step rfl (OpStep.box (us := [.int .i64 gNodes, gvEdges]) rfl fun b1 => ?_)
  refine Run.step rfl (OpStep.box (us := [.int .i64 cQubits, cvGates]) rfl fun b2 => ?_)
  refine Run.q (v := .bool false) rfl (OpQ.y (OpY.pure rfl)) ?_
  refine Run.done ?_
  refine Run.seq ?_
  refine Run.region ?_
  refine Run.q (v := .int .i64 1048576) rfl (OpQ.y (OpY.pure rfl)) ?_
  refine Run.done ?_
  refine Run.seq ?_
  refine Run.region ?_
  refine Run.q (v := .agg #[.int .i64 gNodes, gvEdges]) rfl (OpQ.y (OpY.loadN (cs := [.int .i64 gNodes, gvEdges]) Tagg_24 rfl (Cells.blk (.tail _ (List.Mem.head _)) ⟨rfl, rfl, trivial⟩))) ?_
  refine Run.q (v := .int .i64 1048576) rfl (OpQ.y (OpY.pure rfl)) ?_
  refine Run.q (v := .int .i64 (szN 1048576 [gnEdges])) rfl (OpQ.call (vs := [.agg #[.int .i64 gNodes, gvEdges], .int .i64 1048576]) (caps := []) Tcall_6 rfl rfl (fun w hs => szCouplingGraph_spec (hs.sl ghEdges) (by omega) (by omega))) ?_
  refine Run.q (v := .int .i64 (szN 1048576 [gnEdges])) rfl (OpQ.y (OpY.pure rfl)) ?_
  refine Run.done ?_
  refine Run.seq ?_
  refine Run.seq ?_
  refine Run.region ?_
  refine Run.q (v := .int .i64 (szN 1048576 [gnEdges])) rfl (OpQ.y (OpY.pure rfl)) ?_
  refine Run.q (v := .bool (decide ((szN 1048576 [gnEdges]) < 0))) rfl (OpQ.y (OpY.pure rfl)) ?_
  refine Run.done ?_
  refine Run.cond (b := decide ((szN 1048576 [gnEdges]) < 0)) rfl (fun h21 => ?_) (fun h21 => ?_)
  · have p21 := h21; try simp only [bs] at p21
    refine Run.seq ?_
    refine Run.region ?_
    refine Run.q (v := .bool true) rfl (OpQ.y (OpY.pure rfl)) ?_
    refine Run.done ?_
    refine Run.ret ?_
    refine ⟨.bool true, [], Out.one rfl rfl, (Some'.weak (.nil _)), ?_⟩
    rfl
  · have p21 := h21; try simp only [bs] at p21
    have hz21 := szN_bound (ns := [gnEdges]) (l := 1048576) p21
    have hz21gnEdges := hz21 gnEdges (by simp)
    refine Run.skip ?_
    refine Run.seq ?_
    refine Run.region ?_
    refine Run.q (v := .agg #[.int .i64 cQubits, cvGates]) rfl (OpQ.y (OpY.loadN (cs := [.int .i64 cQubits, cvGates]) Tagg_27 rfl (Cells.blk (.head _) ⟨rfl, rfl, trivial⟩))) ?_
    refine Run.q (v := .int .i64 (szN 1048576 [gnEdges])) rfl (OpQ.y (OpY.pure rfl)) ?_
    refine Run.q (v := .int .i64 (szN (szN 1048576 [gnEdges]) [cnGates])) rfl (OpQ.call (vs := [.agg #[.int .i64 cQubits, cvGates], .int .i64 (szN 1048576 [gnEdges])]) (caps := []) Tcall_7 rfl rfl (fun w hs => szCircuit_spec (hs.sl chGates) (by omega) (by omega))) ?_
    refine Run.q (v := .int .i64 (szN (szN 1048576 [gnEdges]) [cnGates])) rfl (OpQ.y (OpY.pure rfl)) ?_
    refine Run.done ?_
    refine Run.seq ?_
    refine Run.seq ?_
    refine Run.region ?_
    refine Run.q (v := .int .i64 (szN (szN 1048576 [gnEdges]) [cnGates])) rfl (OpQ.y (OpY.pure rfl)) ?_
    refine Run.q (v := .bool (decide ((szN (szN 1048576 [gnEdges]) [cnGates]) < 0))) rfl (OpQ.y (OpY.pure rfl)) ?_
    refine Run.done ?_
    refine Run.cond (b := decide ((szN (szN 1048576 [gnEdges]) [cnGates]) < 0)) rfl (fun h26 => ?_) (fun h26 => ?_)
    · have p26 := h26; try simp only [bs] at p26
      refine Run.seq ?_
      refine Run.region ?_
      refine Run.q (v := .bool true) rfl (OpQ.y (OpY.pure rfl)) ?_
      refine Run.done ?_
      refine Run.ret ?_
      refine ⟨.bool true, [], Out.one rfl rfl, (Some'.weak (.nil _)), ?_⟩
      rfl
    · have p26 := h26; try simp only [bs] at p26
      have hz26 := szN_bound (ns := [cnGates]) (l := (szN 1048576 [gnEdges])) p26
      have hz26cnGates := hz26 cnGates (by simp)
      refine Run.skip ?_
      refine Run.seq ?_
      refine Run.cut (ι := Nat × Value × Value) [6, 7, 27, 28, 29, 30, 31, 32, 33, 34] (fun ⟨b, x, y⟩ => [(6, .pointer (some ⟨b, 0, none⟩)), (7, .bool ok)]) (fun ⟨b, x, y⟩ => [.blk b 48 [x, y], .own x 3 1 (pl.length) (ints pl), .own y 101 3 (tl.length) (ints (fl3 tl)), .blk b2 27 [.int .i64 cQubits, cvGates], .blk b1 24 [.int .i64 gNodes, gvEdges]]) (fun ⟨b, x, y⟩ => True) ?_ ?_
      · refine Run.held (by kernel_rfl) ?_
        refine DW.take (i := 0) (v := .agg #[.int .i64 gNodes, gvEdges]) rfl (by kernel_rfl) (by kernel_rfl) (by kernel_rfl) (fun _ _ _ h => h) (Weak.refl _) rfl (OpY.loadN (cs := [.int .i64 gNodes, gvEdges]) Tagg_24 rfl (Cells.blk (.tail _ (List.Mem.head _)) ⟨rfl, rfl, trivial⟩)) ?_
        refine DW.take (i := 2) (v := .agg #[.int .i64 cQubits, cvGates]) rfl (by kernel_rfl) (by kernel_rfl) (by kernel_rfl) (fun _ _ _ h => h) (Weak.refl _) rfl (OpY.loadN (cs := [.int .i64 cQubits, cvGates]) Tagg_27 rfl (Cells.blk (.head _) ⟨rfl, rfl, trivial⟩)) ?_
        refine DW.two (i := 1) (j := 8) (by kernel_rfl) rfl rfl rfl rfl ?_ ?_
        · refine OpStep.call (vs := [.agg #[.int .i64 gNodes, gvEdges]]) (caps := []) Tcall_9 rfl rfl (fun w hs => toCouplingGraph_spec (hs.sl ghEdges) (by omega)) ?_
          rintro _ _ ⟨u1, rfl, rfl⟩
          refine ⟨(Some'.weak (.skip (.take (.take (.nil _))))), ?_⟩
          refine DW.two (i := 3) (j := 8) (by kernel_rfl) rfl rfl rfl rfl ?_ ?_
          · refine OpStep.call (vs := [.agg #[.int .i64 cQubits, cvGates]]) (caps := []) Tcall_10 rfl rfl (fun w hs => toCircuit_spec (hs.sl chGates) (by omega)) ?_
            rintro _ _ ⟨u2, rfl, rfl⟩
            refine ⟨(Some'.weak (.skip (.skip (.take (.take (.nil _)))))), ?_⟩
            refine DW.two (i := 4) (j := 8) (by kernel_rfl) rfl rfl rfl rfl ?_ ?_
            · refine OpStep.call (vs := [.agg #[.int .i64 gNodes, u1], .agg #[.int .i64 cQubits, u2]]) (caps := []) Tcall_24 rfl rfl (fun w hs => (by have h := sBestRoute_spec (M := M) (Q := cQubits) hM gwNodes gwEdges (hs.slOwn (.tail _ (List.Mem.head _))) (hs.slOwn (.head _)); rw [hpl, htl, hok] at h; exact h)) ?_
              rintro _ _ ⟨u3, u4, rfl, rfl⟩
              refine ⟨(Some'.weak (.skip (.skip (.skip (.skip (.take (.take (.nil _)))))))), ?_⟩
              refine DW.take (i := 5) (v := .tuple #[.agg #[u3, u4], .bool ok]) rfl (by kernel_rfl) (by kernel_rfl) (by kernel_rfl) (fun _ _ _ h => h) (Some'.weak (.skip (.skip (.skip (.skip (.take (.take (.nil _)))))))) rfl (OpY.pure rfl) ?_
              refine DW.take (i := 6) (v := .agg #[u3, u4]) rfl (by kernel_rfl) (by kernel_rfl) (by kernel_rfl) (fun _ _ _ h => h) (Some'.weak (.skip (.skip (.skip (.skip (.take (.take (.nil _)))))))) rfl (OpY.pure rfl) ?_
              refine DW.take (i := 7) (v := .bool ok) rfl (by kernel_rfl) (by kernel_rfl) (by kernel_rfl) (fun _ _ _ h => h) (Some'.weak (.skip (.skip (.skip (.skip (.take (.take (.nil _)))))))) rfl (OpY.pure rfl) ?_
              refine DW.step (i := 8) (by kernel_rfl) rfl rfl (OpStep.alloc (zs := [.slice none 0 0, .slice none 0 0]) Tzero_48 fun b3 => ?_)
              refine ⟨(Some'.weak (.skip (.skip (.skip (.skip (.skip (.take (.take (.nil _))))))))), ?_⟩
              refine DW.formOwn (.tail _ (List.Mem.head _)) (fun A_u31 c_u31 hv hcapc_u31 hmaxc_u31 => ?_)
              subst hv
              refine DW.formOwn (.tail _ (.tail _ (List.Mem.head _))) (fun A_u41 c_u41 hv hcapc_u41 hmaxc_u41 => ?_)
              subst hv
              refine DW.step (i := 9) (by kernel_rfl) rfl rfl (OpStep.storeAll (us := [.slice A_u31 (pl.length) c_u31, .slice A_u41 (tl.length) c_u41]) Tsize_48 rfl rfl rfl (.here _) rfl ?_)
              refine ⟨(Some'.weak (.skip (.skip (.skip (.skip (.skip (.take (.take (.nil _))))))))), ?_⟩
              refine DW.take (i := 10) (v := .bool ok) rfl (by kernel_rfl) (by kernel_rfl) (by kernel_rfl) (fun _ _ _ h => h) (Some'.weak (.skip (.skip (.skip (.skip (.skip (.take (.take (.nil _))))))))) rfl (OpY.pure rfl) ?_
              refine DW.done (by kernel_rfl) ?_
              refine Run.goal ⟨(by repeat (first | exact Same.refl _ _ | refine Same.put rfl ?_ | refine Same.over rfl rfl ?_)), (b3, .slice A_u31 (pl.length) c_u31, .slice A_u41 (tl.length) c_u41), ?_, ?_, ?_⟩
              · trivial
              · exact ⟨(by first | rfl | (congr 1; omega) | simp [*]), (by first | rfl | (congr 1; omega) | simp [*]), trivial⟩
              · exact ((Weak.selF [0, 0, 0, 2, 2]).trans (Some'.weak (.takeEq (by first | rfl | simp) (.takeEq (by first | rfl | simp) (.takeEq (by first | rfl | simp) (.take (.take (.nil _))))))))
            · refine OpStep.alloc (zs := [.slice none 0 0, .slice none 0 0]) Tzero_48 fun b4 => ?_
              refine ⟨(Some'.weak (.skip (.skip (.skip (.take (.take (.nil _))))))), ?_⟩
              refine DW.step (i := 4) (by kernel_rfl) rfl rfl (OpStep.call (vs := [.agg #[.int .i64 gNodes, u1], .agg #[.int .i64 cQubits, u2]]) (caps := []) Tcall_24 rfl rfl (fun w hs => (by have h := sBestRoute_spec (M := M) (Q := cQubits) hM gwNodes gwEdges (hs.slOwn (.tail _ (.tail _ (List.Mem.head _)))) (hs.slOwn (.tail _ (List.Mem.head _))); rw [hpl, htl, hok] at h; exact h)) ?_)
              rintro _ _ ⟨u5, u6, rfl, rfl⟩
              refine ⟨(Some'.weak (.skip (.skip (.skip (.skip (.skip (.take (.take (.nil _))))))))), ?_⟩
              refine DW.take (i := 5) (v := .tuple #[.agg #[u5, u6], .bool ok]) rfl (by kernel_rfl) (by kernel_rfl) (by kernel_rfl) (fun _ _ _ h => h) (Some'.weak (.skip (.skip (.skip (.skip (.skip (.take (.take (.nil _))))))))) rfl (OpY.pure rfl) ?_
              refine DW.take (i := 6) (v := .agg #[u5, u6]) rfl (by kernel_rfl) (by kernel_rfl) (by kernel_rfl) (fun _ _ _ h => h) (Some'.weak (.skip (.skip (.skip (.skip (.skip (.take (.take (.nil _))))))))) rfl (OpY.pure rfl) ?_
              refine DW.take (i := 7) (v := .bool ok) rfl (by kernel_rfl) (by kernel_rfl) (by kernel_rfl) (fun _ _ _ h => h) (Some'.weak (.skip (.skip (.skip (.skip (.skip (.take (.take (.nil _))))))))) rfl (OpY.pure rfl) ?_
              refine DW.formOwn (.head _) (fun A_u51 c_u51 hv hcapc_u51 hmaxc_u51 => ?_)
              subst hv
              refine DW.formOwn (.tail _ (List.Mem.head _)) (fun A_u61 c_u61 hv hcapc_u61 hmaxc_u61 => ?_)
              subst hv
              refine DW.step (i := 9) (by kernel_rfl) rfl rfl (OpStep.storeAll (us := [.slice A_u51 (pl.length) c_u51, .slice A_u61 (tl.length) c_u61]) Tsize_48 rfl rfl rfl (.there _ (.there _ (.here _))) rfl ?_)
              refine ⟨(Some'.weak (.skip (.skip (.skip (.skip (.skip (.take (.take (.nil _))))))))), ?_⟩
              refine DW.take (i := 10) (v := .bool ok) rfl (by kernel_rfl) (by kernel_rfl) (by kernel_rfl) (fun _ _ _ h => h) (Some'.weak (.skip (.skip (.skip (.skip (.skip (.take (.take (.nil _))))))))) rfl (OpY.pure rfl) ?_
              refine DW.done (by kernel_rfl) ?_
              refine Run.goal ⟨(by repeat (first | exact Same.refl _ _ | refine Same.put rfl ?_ | refine Same.over rfl rfl ?_)), (b4, .slice A_u51 (pl.length) c_u51, .slice A_u61 (tl.length) c_u61), ?_, ?_, ?_⟩
              · trivial
              · exact ⟨(by first | rfl | (congr 1; omega) | simp [*]), (by first | rfl | (congr 1; omega) | simp [*]), trivial⟩
              · exact ((Weak.selF [2, 0, 0, 2, 2]).trans (Some'.weak (.takeEq (by first | rfl | simp) (.takeEq (by first | rfl | simp) (.takeEq (by first | rfl | simp) (.take (.take (.nil _))))))))
          · refine OpStep.alloc (zs := [.slice none 0 0, .slice none 0 0]) Tzero_48 fun b5 => ?_
            refine ⟨(Some'.weak (.skip (.skip (.take (.take (.nil _)))))), ?_⟩
            refine DW.step (i := 3) (by kernel_rfl) rfl rfl (OpStep.call (vs := [.agg #[.int .i64 cQubits, cvGates]]) (caps := []) Tcall_10 rfl rfl (fun w hs => toCircuit_spec (hs.sl chGates) (by omega)) ?_)
            rintro _ _ ⟨u7, rfl, rfl⟩
            refine ⟨(Some'.weak (.skip (.skip (.skip (.take (.take (.nil _))))))), ?_⟩
            refine DW.step (i := 4) (by kernel_rfl) rfl rfl (OpStep.call (vs := [.agg #[.int .i64 gNodes, u1], .agg #[.int .i64 cQubits, u7]]) (caps := []) Tcall_24 rfl rfl (fun w hs => (by have h := sBestRoute_spec (M := M) (Q := cQubits) hM gwNodes gwEdges (hs.slOwn (.tail _ (.tail _ (List.Mem.head _)))) (hs.slOwn (.head _)); rw [hpl, htl, hok] at h; exact h)) ?_)
            rintro _ _ ⟨u8, u9, rfl, rfl⟩
            refine ⟨(Some'.weak (.skip (.skip (.skip (.skip (.skip (.take (.take (.nil _))))))))), ?_⟩
            refine DW.take (i := 5) (v := .tuple #[.agg #[u8, u9], .bool ok]) rfl (by kernel_rfl) (by kernel_rfl) (by kernel_rfl) (fun _ _ _ h => h) (Some'.weak (.skip (.skip (.skip (.skip (.skip (.take (.take (.nil _))))))))) rfl (OpY.pure rfl) ?_
            refine DW.take (i := 6) (v := .agg #[u8, u9]) rfl (by kernel_rfl) (by kernel_rfl) (by kernel_rfl) (fun _ _ _ h => h) (Some'.weak (.skip (.skip (.skip (.skip (.skip (.take (.take (.nil _))))))))) rfl (OpY.pure rfl) ?_
            refine DW.take (i := 7) (v := .bool ok) rfl (by kernel_rfl) (by kernel_rfl) (by kernel_rfl) (fun _ _ _ h => h) (Some'.weak (.skip (.skip (.skip (.skip (.skip (.take (.take (.nil _))))))))) rfl (OpY.pure rfl) ?_
            refine DW.formOwn (.head _) (fun A_u81 c_u81 hv hcapc_u81 hmaxc_u81 => ?_)
            subst hv
            refine DW.formOwn (.tail _ (List.Mem.head _)) (fun A_u91 c_u91 hv hcapc_u91 hmaxc_u91 => ?_)
            subst hv
            refine DW.step (i := 9) (by kernel_rfl) rfl rfl (OpStep.storeAll (us := [.slice A_u81 (pl.length) c_u81, .slice A_u91 (tl.length) c_u91]) Tsize_48 rfl rfl rfl (.there _ (.there _ (.there _ (.here _)))) rfl ?_)
            refine ⟨(Some'.weak (.skip (.skip (.skip (.skip (.skip (.take (.take (.nil _))))))))), ?_⟩
            refine DW.take (i := 10) (v := .bool ok) rfl (by kernel_rfl) (by kernel_rfl) (by kernel_rfl) (fun _ _ _ h => h) (Some'.weak (.skip (.skip (.skip (.skip (.skip (.take (.take (.nil _))))))))) rfl (OpY.pure rfl) ?_
            refine DW.done (by kernel_rfl) ?_
            refine Run.goal ⟨(by repeat (first | exact Same.refl _ _ | refine Same.put rfl ?_ | refine Same.over rfl rfl ?_)), (b5, .slice A_u81 (pl.length) c_u81, .slice A_u91 (tl.length) c_u91), ?_, ?_, ?_⟩
            · trivial
            · exact ⟨(by first | rfl | (congr 1; omega) | simp [*]), (by first | rfl | (congr 1; omega) | simp [*]), trivial⟩
            · exact ((Weak.selF [3, 0, 0, 2, 2]).trans (Some'.weak (.takeEq (by first | rfl | simp) (.takeEq (by first | rfl | simp) (.takeEq (by first | rfl | simp) (.take (.take (.nil _))))))))
        · refine OpStep.alloc (zs := [.slice none 0 0, .slice none 0 0]) Tzero_48 fun b6 => ?_
          refine ⟨(Some'.weak (.skip (.take (.take (.nil _))))), ?_⟩
          refine DW.step (i := 1) (by kernel_rfl) rfl rfl (OpStep.call (vs := [.agg #[.int .i64 gNodes, gvEdges]]) (caps := []) Tcall_9 rfl rfl (fun w hs => toCouplingGraph_spec (hs.sl ghEdges) (by omega)) ?_)
          rintro _ _ ⟨u10, rfl, rfl⟩
          refine ⟨(Some'.weak (.skip (.skip (.take (.take (.nil _)))))), ?_⟩
          refine DW.step (i := 3) (by kernel_rfl) rfl rfl (OpStep.call (vs := [.agg #[.int .i64 cQubits, cvGates]]) (caps := []) Tcall_10 rfl rfl (fun w hs => toCircuit_spec (hs.sl chGates) (by omega)) ?_)
          rintro _ _ ⟨u11, rfl, rfl⟩
          refine ⟨(Some'.weak (.skip (.skip (.skip (.take (.take (.nil _))))))), ?_⟩
          refine DW.step (i := 4) (by kernel_rfl) rfl rfl (OpStep.call (vs := [.agg #[.int .i64 gNodes, u10], .agg #[.int .i64 cQubits, u11]]) (caps := []) Tcall_24 rfl rfl (fun w hs => (by have h := sBestRoute_spec (M := M) (Q := cQubits) hM gwNodes gwEdges (hs.slOwn (.tail _ (List.Mem.head _))) (hs.slOwn (.head _)); rw [hpl, htl, hok] at h; exact h)) ?_)
          rintro _ _ ⟨u12, u13, rfl, rfl⟩
          refine ⟨(Some'.weak (.skip (.skip (.skip (.skip (.skip (.take (.take (.nil _))))))))), ?_⟩
          refine DW.take (i := 5) (v := .tuple #[.agg #[u12, u13], .bool ok]) rfl (by kernel_rfl) (by kernel_rfl) (by kernel_rfl) (fun _ _ _ h => h) (Some'.weak (.skip (.skip (.skip (.skip (.skip (.take (.take (.nil _))))))))) rfl (OpY.pure rfl) ?_
          refine DW.take (i := 6) (v := .agg #[u12, u13]) rfl (by kernel_rfl) (by kernel_rfl) (by kernel_rfl) (fun _ _ _ h => h) (Some'.weak (.skip (.skip (.skip (.skip (.skip (.take (.take (.nil _))))))))) rfl (OpY.pure rfl) ?_
          refine DW.take (i := 7) (v := .bool ok) rfl (by kernel_rfl) (by kernel_rfl) (by kernel_rfl) (fun _ _ _ h => h) (Some'.weak (.skip (.skip (.skip (.skip (.skip (.take (.take (.nil _))))))))) rfl (OpY.pure rfl) ?_
          refine DW.formOwn (.head _) (fun A_u121 c_u121 hv hcapc_u121 hmaxc_u121 => ?_)
          subst hv
          refine DW.formOwn (.tail _ (List.Mem.head _)) (fun A_u131 c_u131 hv hcapc_u131 hmaxc_u131 => ?_)
          subst hv
          refine DW.step (i := 9) (by kernel_rfl) rfl rfl (OpStep.storeAll (us := [.slice A_u121 (pl.length) c_u121, .slice A_u131 (tl.length) c_u131]) Tsize_48 rfl rfl rfl (.there _ (.there _ (.there _ (.there _ (.here _))))) rfl ?_)
          refine ⟨(Some'.weak (.skip (.skip (.skip (.skip (.skip (.take (.take (.nil _))))))))), ?_⟩
          refine DW.take (i := 10) (v := .bool ok) rfl (by kernel_rfl) (by kernel_rfl) (by kernel_rfl) (fun _ _ _ h => h) (Some'.weak (.skip (.skip (.skip (.skip (.skip (.take (.take (.nil _))))))))) rfl (OpY.pure rfl) ?_
          refine DW.done (by kernel_rfl) ?_
          refine Run.goal ⟨(by repeat (first | exact Same.refl _ _ | refine Same.put rfl ?_ | refine Same.over rfl rfl ?_)), (b6, .slice A_u121 (pl.length) c_u121, .slice A_u131 (tl.length) c_u131), ?_, ?_, ?_⟩
          · trivial
          · exact ⟨(by first | rfl | (congr 1; omega) | simp [*]), (by first | rfl | (congr 1; omega) | simp [*]), trivial⟩
          · exact ((Weak.selF [4, 0, 0, 2, 2]).trans (Some'.weak (.takeEq (by first | rfl | simp) (.takeEq (by first | rfl | simp) (.takeEq (by first | rfl | simp) (.take (.take (.nil _))))))))
      · rintro ⟨b, x, y⟩ fr hcut
        show Run _ _ (over _ _ [(6, .pointer (some ⟨b, 0, none⟩)), (7, .bool ok)] fr) [.blk b 48 [x, y], .own x 3 1 (pl.length) (ints pl), .own y 101 3 (tl.length) (ints (fl3 tl)), .blk b2 27 [.int .i64 cQubits, cvGates], .blk b1 24 [.int .i64 gNodes, gvEdges]]
        refine Run.seq ?_
        refine Run.region ?_
        refine Run.q (v := .agg #[.int .i64 gNodes, gvEdges]) rfl (OpQ.y (OpY.loadN (cs := [.int .i64 gNodes, gvEdges]) Tagg_24 rfl (Cells.blk (.tail _ (.tail _ (.tail _ (.tail _ (List.Mem.head _))))) ⟨rfl, rfl, trivial⟩))) ?_
        refine Run.step rfl (OpStep.call (vs := [.agg #[.int .i64 gNodes, gvEdges]]) (caps := []) Tcall_9 rfl rfl (fun w hs => toCouplingGraph_spec (hs.sl ghEdges) (by omega)) ?_)
        rintro _ _ ⟨u14, rfl, rfl⟩
        show Run _ _ (putF _ _ _ (.agg #[.int .i64 gNodes, u14])) [.own u14 77 2 gnEdges (ints gxEdges), .blk b 48 [x, y], .own x 3 1 (pl.length) (ints pl), .own y 101 3 (tl.length) (ints (fl3 tl)), .blk b2 27 [.int .i64 cQubits, cvGates], .blk b1 24 [.int .i64 gNodes, gvEdges]]
        refine Run.step rfl (OpStep.alloc (zs := [.int .i64 0, .slice none 0 0]) Tzero_35 fun b7 => ?_)
        refine Run.formOwn (.tail _ (List.Mem.head _)) (fun A_u141 c_u141 hv hcapc_u141 hmaxc_u141 => ?_) (fun _ _ _ => ⟨nofun, nofun, nofun⟩)
        subst hv
        refine Run.step rfl (OpStep.storeAll (us := [.int .i64 gNodes, .slice A_u141 gnEdges c_u141]) Tsize_35 rfl rfl rfl (.here _) rfl ?_)
        refine Run.done ?_
        refine Run.seq ?_
        refine Run.region ?_
        refine Run.q (v := .agg #[.int .i64 cQubits, cvGates]) rfl (OpQ.y (OpY.loadN (cs := [.int .i64 cQubits, cvGates]) Tagg_27 rfl (Cells.blk (.tail _ (.tail _ (.tail _ (.tail _ (.tail _ (List.Mem.head _)))))) ⟨rfl, rfl, trivial⟩))) ?_
        refine Run.step rfl (OpStep.call (vs := [.agg #[.int .i64 cQubits, cvGates]]) (caps := []) Tcall_10 rfl rfl (fun w hs => toCircuit_spec (hs.sl chGates) (by omega)) ?_)
        rintro _ _ ⟨u15, rfl, rfl⟩
        show Run _ _ (putF _ _ _ (.agg #[.int .i64 cQubits, u15])) [.own u15 81 3 cnGates (ints cxGates), .blk b7 35 [.int .i64 gNodes, .slice A_u141 gnEdges c_u141], .own (.slice A_u141 gnEdges c_u141) 77 2 gnEdges (ints gxEdges), .blk b 48 [x, y], .own x 3 1 (pl.length) (ints pl), .own y 101 3 (tl.length) (ints (fl3 tl)), .blk b2 27 [.int .i64 cQubits, cvGates], .blk b1 24 [.int .i64 gNodes, gvEdges]]
        refine Run.step rfl (OpStep.alloc (zs := [.int .i64 0, .slice none 0 0]) Tzero_39 fun b8 => ?_)
        refine Run.formOwn (.tail _ (List.Mem.head _)) (fun A_u151 c_u151 hv hcapc_u151 hmaxc_u151 => ?_) (fun _ _ _ => ⟨nofun, nofun, nofun⟩)
        subst hv
        refine Run.step rfl (OpStep.storeAll (us := [.int .i64 cQubits, .slice A_u151 cnGates c_u151]) Tsize_39 rfl rfl rfl (.here _) rfl ?_)
        refine Run.done ?_
        refine Run.seq ?_
        refine Run.region ?_
        refine Run.q (v := .agg #[.int .i64 gNodes, .slice A_u141 gnEdges c_u141]) rfl (OpQ.y (OpY.loadN (cs := [.int .i64 gNodes, .slice A_u141 gnEdges c_u141]) Tagg_35 rfl (Cells.blk (.tail _ (.tail _ (List.Mem.head _))) ⟨rfl, rfl, trivial⟩))) ?_
        refine Run.q (v := .agg #[.int .i64 cQubits, .slice A_u151 cnGates c_u151]) rfl (OpQ.y (OpY.loadN (cs := [.int .i64 cQubits, .slice A_u151 cnGates c_u151]) Tagg_39 rfl (Cells.blk (.head _) ⟨rfl, rfl, trivial⟩))) ?_
        refine Run.step rfl (OpStep.call (vs := [.agg #[.int .i64 gNodes, .slice A_u141 gnEdges c_u141], .agg #[.int .i64 cQubits, .slice A_u151 cnGates c_u151]]) (caps := []) Tcall_25 rfl rfl (fun w hs => (by have h := BestRoute_spec (M := M) (N := gNodes) (Q := cQubits) hM (hs.slOwn (.tail _ (.tail _ (.tail _ (List.Mem.head _))))) (hs.slOwn (.tail _ (List.Mem.head _))); rw [hpl, htl, hok] at h; exact h)) ?_)
        rintro _ _ ⟨u16, u17, rfl, rfl⟩
        show Run _ _ (putF _ _ _ (.tuple #[.agg #[u16, u17], .bool ok])) [.own u16 3 1 (pl.length) (ints pl), .own u17 101 3 (tl.length) (ints (fl3 tl)), .blk b8 39 [.int .i64 cQubits, .slice A_u151 cnGates c_u151], .own (.slice A_u151 cnGates c_u151) 81 3 cnGates (ints cxGates), .blk b7 35 [.int .i64 gNodes, .slice A_u141 gnEdges c_u141], .own (.slice A_u141 gnEdges c_u141) 77 2 gnEdges (ints gxEdges), .blk b 48 [x, y], .own x 3 1 (pl.length) (ints pl), .own y 101 3 (tl.length) (ints (fl3 tl)), .blk b2 27 [.int .i64 cQubits, cvGates], .blk b1 24 [.int .i64 gNodes, gvEdges]]
        refine Run.q (v := .tuple #[.agg #[u16, u17], .bool ok]) rfl (OpQ.y (OpY.pure rfl)) ?_
        refine Run.q (v := .agg #[u16, u17]) rfl (OpQ.y (OpY.pure rfl)) ?_
        refine Run.q (v := .bool ok) rfl (OpQ.y (OpY.pure rfl)) ?_
        refine Run.step rfl (OpStep.alloc (zs := [.slice none 0 0, .slice none 0 0]) Tzero_48 fun b9 => ?_)
        refine Run.formOwn (.tail _ (List.Mem.head _)) (fun A_u161 c_u161 hv hcapc_u161 hmaxc_u161 => ?_) (fun _ _ _ => ⟨nofun, nofun, nofun⟩)
        subst hv
        refine Run.formOwn (.tail _ (.tail _ (List.Mem.head _))) (fun A_u171 c_u171 hv hcapc_u171 hmaxc_u171 => ?_) (fun _ _ _ => ⟨nofun, nofun, nofun⟩)
        subst hv
        refine Run.step rfl (OpStep.storeAll (us := [.slice A_u161 (pl.length) c_u161, .slice A_u171 (tl.length) c_u171]) Tsize_48 rfl rfl rfl (.here _) rfl ?_)
        refine Run.q (v := .bool ok) rfl (OpQ.y (OpY.pure rfl)) ?_
        refine Run.done ?_
        refine Run.seq ?_
        refine Run.seq ?_
        refine Run.region ?_
        refine Run.q (v := .agg #[.slice A_u161 (pl.length) c_u161, .slice A_u171 (tl.length) c_u171]) rfl (OpQ.y (OpY.loadN (cs := [.slice A_u161 (pl.length) c_u161, .slice A_u171 (tl.length) c_u171]) Tagg_48 rfl (Cells.blk (.head _) ⟨rfl, rfl, trivial⟩))) ?_
        refine Run.q (v := .agg #[x, y]) rfl (OpQ.y (OpY.loadN (cs := [x, y]) Tagg_48 rfl (Cells.blk (.tail _ (.tail _ (.tail _ (.tail _ (.tail _ (.tail _ (.tail _ (List.Mem.head _)))))))) ⟨rfl, rfl, trivial⟩))) ?_
        refine Run.q (v := .bool true) rfl (OpQ.call (vs := [.agg #[.slice A_u161 (pl.length) c_u161, .slice A_u171 (tl.length) c_u171], .agg #[x, y]]) (caps := []) Tcall_18 rfl rfl (fun w hs => eqRoute_true (hs.slOwn (.tail _ (List.Mem.head _))) (hs.slOwn (.tail _ (.tail _ (List.Mem.head _)))) (hs.slOwn (.tail _ (.tail _ (.tail _ (.tail _ (.tail _ (.tail _ (.tail _ (.tail _ (List.Mem.head _)))))))))) (hs.slOwn (.tail _ (.tail _ (.tail _ (.tail _ (.tail _ (.tail _ (.tail _ (.tail _ (.tail _ (List.Mem.head _))))))))))))) ?_
        refine Run.q (v := .bool false) rfl (OpQ.y (OpY.pure rfl)) ?_
        refine Run.q (v := .bool false) rfl (OpQ.y (OpY.pure rfl)) ?_
        refine Run.q (v := .bool ok) rfl (OpQ.y (OpY.pure rfl)) ?_
        refine Run.q (v := .bool ok) rfl (OpQ.y (OpY.pure rfl)) ?_
        refine Run.q (v := .bool false) rfl (OpQ.y (OpY.neqBSame Tbool_4 rfl rfl rfl)) ?_
        refine Run.q (v := .bool false) rfl (OpQ.y (OpY.pure rfl)) ?_
        refine Run.done ?_
        refine Run.cond (b := false) rfl (fun h => nomatch h) (fun _ => ?_)
        refine Run.skip ?_
        refine Run.seq ?_
        refine Run.seq ?_
        refine Run.held (by kernel_rfl) ?_
        refine DW.take (i := 0) (v := .agg #[.int .i64 gNodes, .slice A_u141 gnEdges c_u141]) rfl (by kernel_rfl) (by kernel_rfl) (by kernel_rfl) (fun _ _ _ h => h) (Weak.refl _) rfl (OpY.loadN (cs := [.int .i64 gNodes, .slice A_u141 gnEdges c_u141]) Tagg_35 rfl (Cells.blk (.tail _ (.tail _ (.tail _ (.tail _ (.tail _ (List.Mem.head _)))))) ⟨rfl, rfl, trivial⟩)) ?_
        refine DW.take (i := 1) (v := .agg #[.int .i64 gNodes, gvEdges]) rfl (by kernel_rfl) (by kernel_rfl) (by kernel_rfl) (fun _ _ _ h => h) (Weak.refl _) rfl (OpY.loadN (cs := [.int .i64 gNodes, gvEdges]) Tagg_24 rfl (Cells.blk (.tail _ (.tail _ (.tail _ (.tail _ (.tail _ (.tail _ (.tail _ (.tail _ (.tail _ (.tail _ (.tail _ (List.Mem.head _)))))))))))) ⟨rfl, rfl, trivial⟩)) ?_
        refine DW.step (i := 2) (by kernel_rfl) rfl rfl (OpStep.call (vs := [.agg #[.int .i64 gNodes, gvEdges]]) (caps := []) Tcall_9 rfl rfl (fun w hs => toCouplingGraph_spec (hs.sl ghEdges) (by omega)) ?_)
        rintro _ _ ⟨u18, rfl, rfl⟩
        refine ⟨(Some'.weak (.skip (.take (.take (.take (.take (.take (.take (.take (.take (.take (.take (.take (.take (.nil _))))))))))))))), ?_⟩
        refine DW.step (i := 3) (by kernel_rfl) rfl rfl (OpStep.q (v := .bool true) (OpQ.call (vs := [.agg #[.int .i64 gNodes, .slice A_u141 gnEdges c_u141], .agg #[.int .i64 gNodes, u18]]) (caps := []) Tcall_13 rfl rfl (fun w hs => eqCouplingGraph_true (hs.slOwn (.tail _ (.tail _ (.tail _ (.tail _ (.tail _ (.tail _ (.tail _ (List.Mem.head _))))))))) (hs.slOwn (.head _)))) ?_)
        refine ⟨(Some'.weak (.skip (.take (.take (.take (.take (.take (.take (.take (.take (.take (.take (.take (.take (.nil _))))))))))))))), ?_⟩
        refine DW.take (i := 4) (v := .bool false) rfl (by kernel_rfl) (by kernel_rfl) (by kernel_rfl) (fun _ _ _ h => h) (Some'.weak (.skip (.take (.take (.take (.take (.take (.take (.take (.take (.take (.take (.take (.take (.nil _))))))))))))))) rfl (OpY.pure rfl) ?_
        refine DW.done (by kernel_rfl) ?_
        refine Run.cond (b := false) rfl (fun h => nomatch h) (fun _ => ?_)
        refine Run.skip ?_
        refine Run.seq ?_
        refine Run.seq ?_
        refine Run.held (by kernel_rfl) ?_
        refine DW.take (i := 0) (v := .agg #[.int .i64 cQubits, .slice A_u151 cnGates c_u151]) rfl (by kernel_rfl) (by kernel_rfl) (by kernel_rfl) (fun _ _ _ h => h) (Weak.refl _) rfl (OpY.loadN (cs := [.int .i64 cQubits, .slice A_u151 cnGates c_u151]) Tagg_39 rfl (Cells.blk (.tail _ (.tail _ (.tail _ (.tail _ (List.Mem.head _))))) ⟨rfl, rfl, trivial⟩)) ?_
        refine DW.take (i := 1) (v := .agg #[.int .i64 cQubits, cvGates]) rfl (by kernel_rfl) (by kernel_rfl) (by kernel_rfl) (fun _ _ _ h => h) (Weak.refl _) rfl (OpY.loadN (cs := [.int .i64 cQubits, cvGates]) Tagg_27 rfl (Cells.blk (.tail _ (.tail _ (.tail _ (.tail _ (.tail _ (.tail _ (.tail _ (.tail _ (.tail _ (.tail _ (.tail _ (List.Mem.head _)))))))))))) ⟨rfl, rfl, trivial⟩)) ?_
        refine DW.step (i := 2) (by kernel_rfl) rfl rfl (OpStep.call (vs := [.agg #[.int .i64 cQubits, cvGates]]) (caps := []) Tcall_10 rfl rfl (fun w hs => toCircuit_spec (hs.sl chGates) (by omega)) ?_)
        rintro _ _ ⟨u19, rfl, rfl⟩
        refine ⟨(Some'.weak (.skip (.take (.take (.take (.take (.take (.take (.take (.take (.take (.take (.take (.take (.take (.nil _)))))))))))))))), ?_⟩
        refine DW.step (i := 3) (by kernel_rfl) rfl rfl (OpStep.q (v := .bool true) (OpQ.call (vs := [.agg #[.int .i64 cQubits, .slice A_u151 cnGates c_u151], .agg #[.int .i64 cQubits, u19]]) (caps := []) Tcall_14 rfl rfl (fun w hs => eqCircuit_true (hs.slOwn (.tail _ (.tail _ (.tail _ (.tail _ (.tail _ (.tail _ (List.Mem.head _)))))))) (hs.slOwn (.head _)))) ?_)
        refine ⟨(Some'.weak (.skip (.take (.take (.take (.take (.take (.take (.take (.take (.take (.take (.take (.take (.take (.nil _)))))))))))))))), ?_⟩
        refine DW.take (i := 4) (v := .bool false) rfl (by kernel_rfl) (by kernel_rfl) (by kernel_rfl) (fun _ _ _ h => h) (Some'.weak (.skip (.take (.take (.take (.take (.take (.take (.take (.take (.take (.take (.take (.take (.take (.nil _)))))))))))))))) rfl (OpY.pure rfl) ?_
        refine DW.done (by kernel_rfl) ?_
        refine Run.cond (b := false) rfl (fun h => nomatch h) (fun _ => ?_)
        refine Run.skip ?_
        refine Run.seq ?_
        refine Run.region ?_
        refine Run.q (v := .int .i64 1) rfl (OpQ.y (OpY.pure rfl)) ?_
        refine Run.done ?_
        refine Run.seq ?_
        refine Run.region ?_
        refine Run.q (v := .agg #[.int .i64 gNodes, .slice A_u141 gnEdges c_u141]) rfl (OpQ.y (OpY.loadN (cs := [.int .i64 gNodes, .slice A_u141 gnEdges c_u141]) Tagg_35 rfl (Cells.blk (.tail _ (.tail _ (.tail _ (.tail _ (.tail _ (.tail _ (.tail _ (List.Mem.head _)))))))) ⟨rfl, rfl, trivial⟩))) ?_
        refine Run.q (v := .int .i64 1) rfl (OpQ.y (OpY.pure rfl)) ?_
        refine Run.step rfl (OpStep.callM (H1 := [.own (.slice A_u141 gnEdges c_u141) 77 2 gnEdges (ints gxEdges)]) (H2 := [.own u19 81 3 cnGates (ints cxGates), .own u18 77 2 gnEdges (ints gxEdges), .blk b9 48 [.slice A_u161 (pl.length) c_u161, .slice A_u171 (tl.length) c_u171], .own (.slice A_u161 (pl.length) c_u161) 3 1 (pl.length) (ints pl), .own (.slice A_u171 (tl.length) c_u171) 101 3 (tl.length) (ints (fl3 tl)), .blk b8 39 [.int .i64 cQubits, .slice A_u151 cnGates c_u151], .own (.slice A_u151 cnGates c_u151) 81 3 cnGates (ints cxGates), .blk b7 35 [.int .i64 gNodes, .slice A_u141 gnEdges c_u141], .blk b 48 [x, y], .own x 3 1 (pl.length) (ints pl), .own y 101 3 (tl.length) (ints (fl3 tl)), .blk b2 27 [.int .i64 cQubits, cvGates], .blk b1 24 [.int .i64 gNodes, gvEdges]]) (vs := [.agg #[.int .i64 gNodes, .slice A_u141 gnEdges c_u141], .int .i64 1]) (caps := []) Tcall_19 rfl rfl (Weak.selF [8]) (fun w hs => markCouplingGraph_spec (hs.sub (List.sublist_append_left _ _)).self (by omega) (by omega)) ?_)
        rintro _ _ ⟨rfl, rfl⟩
        show Run _ _ (putF _ _ _ (.int .i64 (1 + ((gnEdges : Nat) : Int) * 2))) [.own (.slice A_u141 gnEdges c_u141) 77 2 gnEdges (ints (mks 1 (gnEdges * 2))), .own u19 81 3 cnGates (ints cxGates), .own u18 77 2 gnEdges (ints gxEdges), .blk b9 48 [.slice A_u161 (pl.length) c_u161, .slice A_u171 (tl.length) c_u171], .own (.slice A_u161 (pl.length) c_u161) 3 1 (pl.length) (ints pl), .own (.slice A_u171 (tl.length) c_u171) 101 3 (tl.length) (ints (fl3 tl)), .blk b8 39 [.int .i64 cQubits, .slice A_u151 cnGates c_u151], .own (.slice A_u151 cnGates c_u151) 81 3 cnGates (ints cxGates), .blk b7 35 [.int .i64 gNodes, .slice A_u141 gnEdges c_u141], .blk b 48 [x, y], .own x 3 1 (pl.length) (ints pl), .own y 101 3 (tl.length) (ints (fl3 tl)), .blk b2 27 [.int .i64 cQubits, cvGates], .blk b1 24 [.int .i64 gNodes, gvEdges]]
        refine Run.q (v := .int .i64 (1 + ((gnEdges : Nat) : Int) * 2)) rfl (OpQ.y (OpY.pure rfl)) ?_
        refine Run.done ?_
        refine Run.seq ?_
        refine Run.region ?_
        refine Run.q (v := .agg #[.int .i64 cQubits, .slice A_u151 cnGates c_u151]) rfl (OpQ.y (OpY.loadN (cs := [.int .i64 cQubits, .slice A_u151 cnGates c_u151]) Tagg_39 rfl (Cells.blk (.tail _ (.tail _ (.tail _ (.tail _ (.tail _ (.tail _ (List.Mem.head _))))))) ⟨rfl, rfl, trivial⟩))) ?_
        refine Run.q (v := .int .i64 (1 + ((gnEdges : Nat) : Int) * 2)) rfl (OpQ.y (OpY.pure rfl)) ?_
        refine Run.step rfl (OpStep.callM (H1 := [.own (.slice A_u151 cnGates c_u151) 81 3 cnGates (ints cxGates)]) (H2 := [.own (.slice A_u141 gnEdges c_u141) 77 2 gnEdges (ints (mks 1 (gnEdges * 2))), .own u19 81 3 cnGates (ints cxGates), .own u18 77 2 gnEdges (ints gxEdges), .blk b9 48 [.slice A_u161 (pl.length) c_u161, .slice A_u171 (tl.length) c_u171], .own (.slice A_u161 (pl.length) c_u161) 3 1 (pl.length) (ints pl), .own (.slice A_u171 (tl.length) c_u171) 101 3 (tl.length) (ints (fl3 tl)), .blk b8 39 [.int .i64 cQubits, .slice A_u151 cnGates c_u151], .blk b7 35 [.int .i64 gNodes, .slice A_u141 gnEdges c_u141], .blk b 48 [x, y], .own x 3 1 (pl.length) (ints pl), .own y 101 3 (tl.length) (ints (fl3 tl)), .blk b2 27 [.int .i64 cQubits, cvGates], .blk b1 24 [.int .i64 gNodes, gvEdges]]) (vs := [.agg #[.int .i64 cQubits, .slice A_u151 cnGates c_u151], .int .i64 (1 + ((gnEdges : Nat) : Int) * 2)]) (caps := []) Tcall_20 rfl rfl (Weak.selF [7]) (fun w hs => markCircuit_spec (hs.sub (List.sublist_append_left _ _)).self (by omega) (by omega)) ?_)
        rintro _ _ ⟨rfl, rfl⟩
        show Run _ _ (putF _ _ _ (.int .i64 (1 + ((gnEdges : Nat) : Int) * 2 + ((cnGates : Nat) : Int) * 3))) [.own (.slice A_u151 cnGates c_u151) 81 3 cnGates (ints (mks (1 + ((gnEdges : Nat) : Int) * 2) (cnGates * 3))), .own (.slice A_u141 gnEdges c_u141) 77 2 gnEdges (ints (mks 1 (gnEdges * 2))), .own u19 81 3 cnGates (ints cxGates), .own u18 77 2 gnEdges (ints gxEdges), .blk b9 48 [.slice A_u161 (pl.length) c_u161, .slice A_u171 (tl.length) c_u171], .own (.slice A_u161 (pl.length) c_u161) 3 1 (pl.length) (ints pl), .own (.slice A_u171 (tl.length) c_u171) 101 3 (tl.length) (ints (fl3 tl)), .blk b8 39 [.int .i64 cQubits, .slice A_u151 cnGates c_u151], .blk b7 35 [.int .i64 gNodes, .slice A_u141 gnEdges c_u141], .blk b 48 [x, y], .own x 3 1 (pl.length) (ints pl), .own y 101 3 (tl.length) (ints (fl3 tl)), .blk b2 27 [.int .i64 cQubits, cvGates], .blk b1 24 [.int .i64 gNodes, gvEdges]]
        refine Run.q (v := .int .i64 (1 + ((gnEdges : Nat) : Int) * 2 + ((cnGates : Nat) : Int) * 3)) rfl (OpQ.y (OpY.pure rfl)) ?_
        refine Run.done ?_
        refine Run.seq ?_
        refine Run.seq ?_
        refine Run.region ?_
        refine Run.q (v := .int .i64 (1 + ((gnEdges : Nat) : Int) * 2 + ((cnGates : Nat) : Int) * 3)) rfl (OpQ.y (OpY.pure rfl)) ?_
        refine Run.q (v := .bool (decide ((1 + ((gnEdges : Nat) : Int) * 2 + ((cnGates : Nat) : Int) * 3) < 0))) rfl (OpQ.y (OpY.pure rfl)) ?_
        rcases Bool.eq_false_or_eq_true (decide ((1 + ((gnEdges : Nat) : Int) * 2 + ((cnGates : Nat) : Int) * 3) < 0)) with h72 | h72
        · exact absurd h72 (by simp <;> omega) --DONE
        · refine Run.q (v := .bool false) rfl (OpQ.y (OpY.moveB rfl h72)) ?_
          have p72 := h72; try simp only [bs] at p72
          refine Run.q (v := .agg #[.slice A_u161 (pl.length) c_u161, .slice A_u171 (tl.length) c_u171]) rfl (OpQ.y (OpY.loadN (cs := [.slice A_u161 (pl.length) c_u161, .slice A_u171 (tl.length) c_u171]) Tagg_48 rfl (Cells.blk (.tail _ (.tail _ (.tail _ (.tail _ (List.Mem.head _))))) ⟨rfl, rfl, trivial⟩))) ?_
          refine Run.q (v := .agg #[x, y]) rfl (OpQ.y (OpY.loadN (cs := [x, y]) Tagg_48 rfl (Cells.blk (.tail _ (.tail _ (.tail _ (.tail _ (.tail _ (.tail _ (.tail _ (.tail _ (.tail _ (List.Mem.head _)))))))))) ⟨rfl, rfl, trivial⟩))) ?_
          refine Run.q (v := .bool true) rfl (OpQ.call (vs := [.agg #[.slice A_u161 (pl.length) c_u161, .slice A_u171 (tl.length) c_u171], .agg #[x, y]]) (caps := []) Tcall_18 rfl rfl (fun w hs => eqRoute_true (hs.slOwn (.tail _ (.tail _ (.tail _ (.tail _ (.tail _ (List.Mem.head _))))))) (hs.slOwn (.tail _ (.tail _ (.tail _ (.tail _ (.tail _ (.tail _ (List.Mem.head _)))))))) (hs.slOwn (.tail _ (.tail _ (.tail _ (.tail _ (.tail _ (.tail _ (.tail _ (.tail _ (.tail _ (.tail _ (List.Mem.head _)))))))))))) (hs.slOwn (.tail _ (.tail _ (.tail _ (.tail _ (.tail _ (.tail _ (.tail _ (.tail _ (.tail _ (.tail _ (.tail _ (List.Mem.head _))))))))))))))) ?_
          refine Run.q (v := .bool false) rfl (OpQ.y (OpY.pure rfl)) ?_
          refine Run.q (v := .bool false) rfl (OpQ.y (OpY.pure rfl)) ?_
          refine Run.q (v := .bool false) rfl (OpQ.y (OpY.pure rfl)) ?_
          refine Run.q (v := .bool ok) rfl (OpQ.y (OpY.pure rfl)) ?_
          refine Run.q (v := .bool ok) rfl (OpQ.y (OpY.pure rfl)) ?_
          refine Run.q (v := .bool false) rfl (OpQ.y (OpY.neqBSame Tbool_4 rfl rfl rfl)) ?_
          refine Run.q (v := .bool false) rfl (OpQ.y (OpY.pure rfl)) ?_
          refine Run.done ?_
          refine Run.cond (b := false) rfl (fun h => nomatch h) (fun _ => ?_)
          refine Run.skip ?_
          refine Run.seq ?_
          refine Run.region ?_
          refine Run.q (v := .int .i64 1) rfl (OpQ.y (OpY.pure rfl)) ?_
          refine Run.done ?_
          refine Run.seq ?_
          refine Run.region ?_
          refine Run.q (v := .agg #[.slice A_u161 (pl.length) c_u161, .slice A_u171 (tl.length) c_u171]) rfl (OpQ.y (OpY.loadN (cs := [.slice A_u161 (pl.length) c_u161, .slice A_u171 (tl.length) c_u171]) Tagg_48 rfl (Cells.blk (.tail _ (.tail _ (.tail _ (.tail _ (List.Mem.head _))))) ⟨rfl, rfl, trivial⟩))) ?_
          refine Run.q (v := .int .i64 1) rfl (OpQ.y (OpY.pure rfl)) ?_
          refine Run.step rfl (OpStep.callM (H1 := [.own (.slice A_u161 (pl.length) c_u161) 3 1 (pl.length) (ints pl), .own (.slice A_u171 (tl.length) c_u171) 101 3 (tl.length) (ints (fl3 tl))]) (H2 := [.own (.slice A_u151 cnGates c_u151) 81 3 cnGates (ints (mks (1 + ((gnEdges : Nat) : Int) * 2) (cnGates * 3))), .own (.slice A_u141 gnEdges c_u141) 77 2 gnEdges (ints (mks 1 (gnEdges * 2))), .own u19 81 3 cnGates (ints cxGates), .own u18 77 2 gnEdges (ints gxEdges), .blk b9 48 [.slice A_u161 (pl.length) c_u161, .slice A_u171 (tl.length) c_u171], .blk b8 39 [.int .i64 cQubits, .slice A_u151 cnGates c_u151], .blk b7 35 [.int .i64 gNodes, .slice A_u141 gnEdges c_u141], .blk b 48 [x, y], .own x 3 1 (pl.length) (ints pl), .own y 101 3 (tl.length) (ints (fl3 tl)), .blk b2 27 [.int .i64 cQubits, cvGates], .blk b1 24 [.int .i64 gNodes, gvEdges]]) (vs := [.agg #[.slice A_u161 (pl.length) c_u161, .slice A_u171 (tl.length) c_u171], .int .i64 1]) (caps := []) Tcall_22 rfl rfl (Weak.selF [5, 5]) (fun w hs => markRoute_spec (hs.sub (List.sublist_append_left _ _)).self (by omega) (by omega)) ?_)
          rintro _ _ ⟨rfl, rfl⟩
          show Run _ _ (putF _ _ _ (.int .i64 (1 + ((pl.length : Nat) : Int) * 1 + ((tl.length : Nat) : Int) * 3))) [.own (.slice A_u171 (tl.length) c_u171) 101 3 (tl.length) (ints (mks (1 + ((pl.length : Nat) : Int) * 1) ((tl.length) * 3))), .own (.slice A_u161 (pl.length) c_u161) 3 1 (pl.length) (ints (mks 1 ((pl.length) * 1))), .own (.slice A_u151 cnGates c_u151) 81 3 cnGates (ints (mks (1 + ((gnEdges : Nat) : Int) * 2) (cnGates * 3))), .own (.slice A_u141 gnEdges c_u141) 77 2 gnEdges (ints (mks 1 (gnEdges * 2))), .own u19 81 3 cnGates (ints cxGates), .own u18 77 2 gnEdges (ints gxEdges), .blk b9 48 [.slice A_u161 (pl.length) c_u161, .slice A_u171 (tl.length) c_u171], .blk b8 39 [.int .i64 cQubits, .slice A_u151 cnGates c_u151], .blk b7 35 [.int .i64 gNodes, .slice A_u141 gnEdges c_u141], .blk b 48 [x, y], .own x 3 1 (pl.length) (ints pl), .own y 101 3 (tl.length) (ints (fl3 tl)), .blk b2 27 [.int .i64 cQubits, cvGates], .blk b1 24 [.int .i64 gNodes, gvEdges]]
          refine Run.q (v := .int .i64 (1 + ((pl.length : Nat) : Int) * 1 + ((tl.length : Nat) : Int) * 3)) rfl (OpQ.y (OpY.pure rfl)) ?_
          refine Run.done ?_
          refine Run.seq ?_
          refine Run.region ?_
          refine Run.q (v := .int .i64 1) rfl (OpQ.y (OpY.pure rfl)) ?_
          refine Run.done ?_
          refine Run.seq ?_
          refine Run.region ?_
          refine Run.q (v := .agg #[.slice A_u161 (pl.length) c_u161, .slice A_u171 (tl.length) c_u171]) rfl (OpQ.y (OpY.loadN (cs := [.slice A_u161 (pl.length) c_u161, .slice A_u171 (tl.length) c_u171]) Tagg_48 rfl (Cells.blk (.tail _ (.tail _ (.tail _ (.tail _ (.tail _ (.tail _ (List.Mem.head _))))))) ⟨rfl, rfl, trivial⟩))) ?_
          refine Run.q (v := .int .i64 1) rfl (OpQ.y (OpY.pure rfl)) ?_
          refine Run.q (v := .int .i64 (1 + ((pl.length : Nat) : Int) * 1 + ((tl.length : Nat) : Int) * 3)) rfl (OpQ.call (vs := [.agg #[.slice A_u161 (pl.length) c_u161, .slice A_u171 (tl.length) c_u171], .int .i64 1]) (caps := []) Tcall_23 rfl rfl (fun w hs => heldRoute_true (hs.slOwn (.tail _ (List.Mem.head _))) (hs.slOwn (.head _)) (by omega) (by omega) rfl rfl)) ?_
          refine Run.q (v := .int .i64 (1 + ((pl.length : Nat) : Int) * 1 + ((tl.length : Nat) : Int) * 3)) rfl (OpQ.y (OpY.pure rfl)) ?_
          refine Run.done ?_
          refine Run.seq ?_
          refine Run.seq ?_
          refine Run.region ?_
          refine Run.q (v := .int .i64 (1 + ((pl.length : Nat) : Int) * 1 + ((tl.length : Nat) : Int) * 3)) rfl (OpQ.y (OpY.pure rfl)) ?_
          refine Run.q (v := .bool (decide ((1 + ((pl.length : Nat) : Int) * 1 + ((tl.length : Nat) : Int) * 3) < 0))) rfl (OpQ.y (OpY.pure rfl)) ?_
          refine Run.done ?_
          refine Run.cond (b := decide ((1 + ((pl.length : Nat) : Int) * 1 + ((tl.length : Nat) : Int) * 3) < 0)) rfl (fun h90 => ?_) (fun h90 => ?_)
          · have p90 := h90; try simp only [bs] at p90
            exact absurd h90 (by simp <;> omega) --DONE
          · have p90 := h90; try simp only [bs] at p90
            refine Run.skip ?_
            refine Run.seq ?_
            refine Run.seq ?_
            refine Run.region ?_
            refine Run.q (v := .int .i64 (1 + ((pl.length : Nat) : Int) * 1 + ((tl.length : Nat) : Int) * 3)) rfl (OpQ.y (OpY.pure rfl)) ?_
            refine Run.q (v := .int .i64 (1 + ((pl.length : Nat) : Int) * 1 + ((tl.length : Nat) : Int) * 3)) rfl (OpQ.y (OpY.pure rfl)) ?_
            refine Run.q (v := .bool false) rfl (OpQ.y (OpY.neqSame rfl rfl rfl)) ?_
            refine Run.done ?_
            refine Run.cond (b := false) rfl (fun h => nomatch h) (fun _ => ?_)
            refine Run.skip ?_
            refine Run.seq ?_
            refine Run.held (by kernel_rfl) ?_
            refine DW.take (i := 0) (v := .agg #[.int .i64 gNodes, gvEdges]) rfl (by kernel_rfl) (by kernel_rfl) (by kernel_rfl) (fun _ _ _ h => h) (Weak.refl _) rfl (OpY.loadN (cs := [.int .i64 gNodes, gvEdges]) Tagg_24 rfl (Cells.blk (.tail _ (.tail _ (.tail _ (.tail _ (.tail _ (.tail _ (.tail _ (.tail _ (.tail _ (.tail _ (.tail _ (.tail _ (.tail _ (List.Mem.head _)))))))))))))) ⟨rfl, rfl, trivial⟩)) ?_
            refine DW.take (i := 2) (v := .agg #[.int .i64 cQubits, cvGates]) rfl (by kernel_rfl) (by kernel_rfl) (by kernel_rfl) (fun _ _ _ h => h) (Weak.refl _) rfl (OpY.loadN (cs := [.int .i64 cQubits, cvGates]) Tagg_27 rfl (Cells.blk (.tail _ (.tail _ (.tail _ (.tail _ (.tail _ (.tail _ (.tail _ (.tail _ (.tail _ (.tail _ (.tail _ (.tail _ (List.Mem.head _))))))))))))) ⟨rfl, rfl, trivial⟩)) ?_
            refine DW.two (i := 1) (j := 8) (by kernel_rfl) rfl rfl rfl rfl ?_ ?_
            · refine OpStep.call (vs := [.agg #[.int .i64 gNodes, gvEdges]]) (caps := []) Tcall_9 rfl rfl (fun w hs => toCouplingGraph_spec (hs.sl ghEdges) (by omega)) ?_
              rintro _ _ ⟨u20, rfl, rfl⟩
              refine ⟨(Some'.weak (.skip (.take (.take (.take (.take (.take (.take (.take (.take (.take (.take (.take (.take (.take (.take (.nil _))))))))))))))))), ?_⟩
              refine DW.two (i := 3) (j := 8) (by kernel_rfl) rfl rfl rfl rfl ?_ ?_
              · refine OpStep.call (vs := [.agg #[.int .i64 cQubits, cvGates]]) (caps := []) Tcall_10 rfl rfl (fun w hs => toCircuit_spec (hs.sl chGates) (by omega)) ?_
                rintro _ _ ⟨u21, rfl, rfl⟩
                refine ⟨(Some'.weak (.skip (.skip (.take (.take (.take (.take (.take (.take (.take (.take (.take (.take (.take (.take (.take (.take (.nil _)))))))))))))))))), ?_⟩
                refine DW.two (i := 4) (j := 8) (by kernel_rfl) rfl rfl rfl rfl ?_ ?_
                · refine OpStep.call (vs := [.agg #[.int .i64 gNodes, u20], .agg #[.int .i64 cQubits, u21]]) (caps := []) Tcall_25 rfl rfl (fun w hs => (by have h := BestRoute_spec (M := M) (N := gNodes) (Q := cQubits) hM (hs.slOwn (.tail _ (List.Mem.head _))) (hs.slOwn (.head _)); rw [hpl, htl, hok] at h; exact h)) ?_
                  rintro _ _ ⟨u22, u23, rfl, rfl⟩
                  refine ⟨(Some'.weak (.skip (.skip (.skip (.skip (.take (.take (.take (.take (.take (.take (.take (.take (.take (.take (.take (.take (.take (.take (.nil _)))))))))))))))))))), ?_⟩
                  refine DW.take (i := 5) (v := .tuple #[.agg #[u22, u23], .bool ok]) rfl (by kernel_rfl) (by kernel_rfl) (by kernel_rfl) (fun _ _ _ h => h) (Some'.weak (.skip (.skip (.skip (.skip (.take (.take (.take (.take (.take (.take (.take (.take (.take (.take (.take (.take (.take (.take (.nil _)))))))))))))))))))) rfl (OpY.pure rfl) ?_
                  refine DW.take (i := 6) (v := .agg #[u22, u23]) rfl (by kernel_rfl) (by kernel_rfl) (by kernel_rfl) (fun _ _ _ h => h) (Some'.weak (.skip (.skip (.skip (.skip (.take (.take (.take (.take (.take (.take (.take (.take (.take (.take (.take (.take (.take (.take (.nil _)))))))))))))))))))) rfl (OpY.pure rfl) ?_
                  refine DW.take (i := 7) (v := .bool ok) rfl (by kernel_rfl) (by kernel_rfl) (by kernel_rfl) (fun _ _ _ h => h) (Some'.weak (.skip (.skip (.skip (.skip (.take (.take (.take (.take (.take (.take (.take (.take (.take (.take (.take (.take (.take (.take (.nil _)))))))))))))))))))) rfl (OpY.pure rfl) ?_
                  refine DW.step (i := 8) (by kernel_rfl) rfl rfl (OpStep.alloc (zs := [.slice none 0 0, .slice none 0 0]) Tzero_48 fun b10 => ?_)
                  refine ⟨(Some'.weak (.skip (.skip (.skip (.skip (.skip (.take (.take (.take (.take (.take (.take (.take (.take (.take (.take (.take (.take (.take (.take (.nil _))))))))))))))))))))), ?_⟩
                  refine DW.formOwn (.tail _ (List.Mem.head _)) (fun A_u221 c_u221 hv hcapc_u221 hmaxc_u221 => ?_)
                  subst hv
                  refine DW.formOwn (.tail _ (.tail _ (List.Mem.head _))) (fun A_u231 c_u231 hv hcapc_u231 hmaxc_u231 => ?_)
                  subst hv
                  refine DW.step (i := 9) (by kernel_rfl) rfl rfl (OpStep.storeAll (us := [.slice A_u221 (pl.length) c_u221, .slice A_u231 (tl.length) c_u231]) Tsize_48 rfl rfl rfl (.here _) rfl ?_)
                  refine ⟨(Some'.weak (.skip (.skip (.skip (.skip (.skip (.take (.take (.take (.take (.take (.take (.take (.take (.take (.take (.take (.take (.take (.take (.nil _))))))))))))))))))))), ?_⟩
                  refine DW.take (i := 10) (v := .bool ok) rfl (by kernel_rfl) (by kernel_rfl) (by kernel_rfl) (fun _ _ _ h => h) (Some'.weak (.skip (.skip (.skip (.skip (.skip (.take (.take (.take (.take (.take (.take (.take (.take (.take (.take (.take (.take (.take (.take (.nil _))))))))))))))))))))) rfl (OpY.pure rfl) ?_
                  refine DW.done (by kernel_rfl) ?_
                  refine Run.seq ?_
                  refine Run.seq ?_
                  refine Run.region ?_
                  refine Run.q (v := .agg #[.slice A_u221 (pl.length) c_u221, .slice A_u231 (tl.length) c_u231]) rfl (OpQ.y (OpY.loadN (cs := [.slice A_u221 (pl.length) c_u221, .slice A_u231 (tl.length) c_u231]) Tagg_48 rfl (Cells.blk (.head _) ⟨rfl, rfl, trivial⟩))) ?_
                  refine Run.q (v := .agg #[x, y]) rfl (OpQ.y (OpY.loadN (cs := [x, y]) Tagg_48 rfl (Cells.blk (.tail _ (.tail _ (.tail _ (.tail _ (.tail _ (.tail _ (.tail _ (.tail _ (.tail _ (.tail _ (.tail _ (.tail _ (.tail _ (.tail _ (List.Mem.head _))))))))))))))) ⟨rfl, rfl, trivial⟩))) ?_
                  refine Run.q (v := .bool true) rfl (OpQ.call (vs := [.agg #[.slice A_u221 (pl.length) c_u221, .slice A_u231 (tl.length) c_u231], .agg #[x, y]]) (caps := []) Tcall_18 rfl rfl (fun w hs => eqRoute_true (hs.slOwn (.tail _ (List.Mem.head _))) (hs.slOwn (.tail _ (.tail _ (List.Mem.head _)))) (hs.slOwn (.tail _ (.tail _ (.tail _ (.tail _ (.tail _ (.tail _ (.tail _ (.tail _ (.tail _ (.tail _ (.tail _ (.tail _ (.tail _ (.tail _ (.tail _ (List.Mem.head _))))))))))))))))) (hs.slOwn (.tail _ (.tail _ (.tail _ (.tail _ (.tail _ (.tail _ (.tail _ (.tail _ (.tail _ (.tail _ (.tail _ (.tail _ (.tail _ (.tail _ (.tail _ (.tail _ (List.Mem.head _)))))))))))))))))))) ?_
                  refine Run.q (v := .bool false) rfl (OpQ.y (OpY.pure rfl)) ?_
                  refine Run.q (v := .bool false) rfl (OpQ.y (OpY.pure rfl)) ?_
                  refine Run.q (v := .bool ok) rfl (OpQ.y (OpY.pure rfl)) ?_
                  refine Run.q (v := .bool ok) rfl (OpQ.y (OpY.pure rfl)) ?_
                  refine Run.q (v := .bool false) rfl (OpQ.y (OpY.neqBSame Tbool_4 rfl rfl rfl)) ?_
                  refine Run.q (v := .bool false) rfl (OpQ.y (OpY.pure rfl)) ?_
                  refine Run.done ?_
                  refine Run.cond (b := false) rfl (fun h => nomatch h) (fun _ => ?_)
                  refine Run.skip ?_
                  refine Run.seq ?_
                  refine Run.region ?_
                  refine Run.q (v := .int .i64 1) rfl (OpQ.y (OpY.pure rfl)) ?_
                  refine Run.done ?_
                  refine Run.seq ?_
                  refine Run.region ?_
                  refine Run.q (v := .agg #[.slice A_u161 (pl.length) c_u161, .slice A_u171 (tl.length) c_u171]) rfl (OpQ.y (OpY.loadN (cs := [.slice A_u161 (pl.length) c_u161, .slice A_u171 (tl.length) c_u171]) Tagg_48 rfl (Cells.blk (.tail _ (.tail _ (.tail _ (.tail _ (.tail _ (.tail _ (.tail _ (.tail _ (.tail _ (.tail _ (.tail _ (List.Mem.head _)))))))))))) ⟨rfl, rfl, trivial⟩))) ?_
                  refine Run.q (v := .int .i64 1) rfl (OpQ.y (OpY.pure rfl)) ?_
                  refine Run.q (v := .int .i64 (1 + ((pl.length : Nat) : Int) * 1 + ((tl.length : Nat) : Int) * 3)) rfl (OpQ.call (vs := [.agg #[.slice A_u161 (pl.length) c_u161, .slice A_u171 (tl.length) c_u171], .int .i64 1]) (caps := []) Tcall_23 rfl rfl (fun w hs => heldRoute_true (hs.slOwn (.tail _ (.tail _ (.tail _ (.tail _ (.tail _ (.tail _ (List.Mem.head _)))))))) (hs.slOwn (.tail _ (.tail _ (.tail _ (.tail _ (.tail _ (List.Mem.head _))))))) (by omega) (by omega) rfl rfl)) ?_
                  refine Run.q (v := .int .i64 (1 + ((pl.length : Nat) : Int) * 1 + ((tl.length : Nat) : Int) * 3)) rfl (OpQ.y (OpY.pure rfl)) ?_
                  refine Run.done ?_
                  refine Run.seq ?_
                  refine Run.seq ?_
                  refine Run.region ?_
                  refine Run.q (v := .int .i64 (1 + ((pl.length : Nat) : Int) * 1 + ((tl.length : Nat) : Int) * 3)) rfl (OpQ.y (OpY.pure rfl)) ?_
                  refine Run.q (v := .bool (decide ((1 + ((pl.length : Nat) : Int) * 1 + ((tl.length : Nat) : Int) * 3) < 0))) rfl (OpQ.y (OpY.pure rfl)) ?_
                  refine Run.done ?_
                  refine Run.cond (b := decide ((1 + ((pl.length : Nat) : Int) * 1 + ((tl.length : Nat) : Int) * 3) < 0)) rfl (fun h115 => ?_) (fun h115 => ?_)
                  · have p115 := h115; try simp only [bs] at p115
                    exact absurd h115 (by simp <;> omega) --DONE
                  · have p115 := h115; try simp only [bs] at p115
                    refine Run.skip ?_
                    refine Run.seq ?_
                    refine Run.seq ?_
                    refine Run.region ?_
                    refine Run.q (v := .int .i64 (1 + ((pl.length : Nat) : Int) * 1 + ((tl.length : Nat) : Int) * 3)) rfl (OpQ.y (OpY.pure rfl)) ?_
                    refine Run.q (v := .int .i64 (1 + ((pl.length : Nat) : Int) * 1 + ((tl.length : Nat) : Int) * 3)) rfl (OpQ.y (OpY.pure rfl)) ?_
                    refine Run.q (v := .bool false) rfl (OpQ.y (OpY.neqSame rfl rfl rfl)) ?_
                    refine Run.done ?_
                    refine Run.cond (b := false) rfl (fun h => nomatch h) (fun _ => ?_)
                    refine Run.skip ?_
                    refine Run.seq ?_
                    refine Run.region ?_
                    refine Run.q (v := .bool true) rfl (OpQ.y (OpY.pure rfl)) ?_
                    refine Run.done ?_
                    refine Run.ret ?_
                    refine ⟨.bool true, [], Out.one rfl rfl, (Some'.weak (.nil _)), ?_⟩
                    rfl
                · refine OpStep.alloc (zs := [.slice none 0 0, .slice none 0 0]) Tzero_48 fun b11 => ?_
                  refine ⟨(Some'.weak (.skip (.skip (.skip (.take (.take (.take (.take (.take (.take (.take (.take (.take (.take (.take (.take (.take (.take (.nil _))))))))))))))))))), ?_⟩
                  refine DW.step (i := 4) (by kernel_rfl) rfl rfl (OpStep.call (vs := [.agg #[.int .i64 gNodes, u20], .agg #[.int .i64 cQubits, u21]]) (caps := []) Tcall_25 rfl rfl (fun w hs => (by have h := BestRoute_spec (M := M) (N := gNodes) (Q := cQubits) hM (hs.slOwn (.tail _ (.tail _ (List.Mem.head _)))) (hs.slOwn (.tail _ (List.Mem.head _))); rw [hpl, htl, hok] at h; exact h)) ?_)
                  rintro _ _ ⟨u24, u25, rfl, rfl⟩
                  refine ⟨(Some'.weak (.skip (.skip (.skip (.skip (.skip (.take (.take (.take (.take (.take (.take (.take (.take (.take (.take (.take (.take (.take (.take (.nil _))))))))))))))))))))), ?_⟩
                  refine DW.take (i := 5) (v := .tuple #[.agg #[u24, u25], .bool ok]) rfl (by kernel_rfl) (by kernel_rfl) (by kernel_rfl) (fun _ _ _ h => h) (Some'.weak (.skip (.skip (.skip (.skip (.skip (.take (.take (.take (.take (.take (.take (.take (.take (.take (.take (.take (.take (.take (.take (.nil _))))))))))))))))))))) rfl (OpY.pure rfl) ?_
                  refine DW.take (i := 6) (v := .agg #[u24, u25]) rfl (by kernel_rfl) (by kernel_rfl) (by kernel_rfl) (fun _ _ _ h => h) (Some'.weak (.skip (.skip (.skip (.skip (.skip (.take (.take (.take (.take (.take (.take (.take (.take (.take (.take (.take (.take (.take (.take (.nil _))))))))))))))))))))) rfl (OpY.pure rfl) ?_
                  refine DW.take (i := 7) (v := .bool ok) rfl (by kernel_rfl) (by kernel_rfl) (by kernel_rfl) (fun _ _ _ h => h) (Some'.weak (.skip (.skip (.skip (.skip (.skip (.take (.take (.take (.take (.take (.take (.take (.take (.take (.take (.take (.take (.take (.take (.nil _))))))))))))))))))))) rfl (OpY.pure rfl) ?_
                  refine DW.formOwn (.head _) (fun A_u241 c_u241 hv hcapc_u241 hmaxc_u241 => ?_)
                  subst hv
                  refine DW.formOwn (.tail _ (List.Mem.head _)) (fun A_u251 c_u251 hv hcapc_u251 hmaxc_u251 => ?_)
                  subst hv
                  refine DW.step (i := 9) (by kernel_rfl) rfl rfl (OpStep.storeAll (us := [.slice A_u241 (pl.length) c_u241, .slice A_u251 (tl.length) c_u251]) Tsize_48 rfl rfl rfl (.there _ (.there _ (.here _))) rfl ?_)
                  refine ⟨(Some'.weak (.skip (.skip (.skip (.skip (.skip (.take (.take (.take (.take (.take (.take (.take (.take (.take (.take (.take (.take (.take (.take (.nil _))))))))))))))))))))), ?_⟩
                  refine DW.take (i := 10) (v := .bool ok) rfl (by kernel_rfl) (by kernel_rfl) (by kernel_rfl) (fun _ _ _ h => h) (Some'.weak (.skip (.skip (.skip (.skip (.skip (.take (.take (.take (.take (.take (.take (.take (.take (.take (.take (.take (.take (.take (.take (.nil _))))))))))))))))))))) rfl (OpY.pure rfl) ?_
                  refine DW.done (by kernel_rfl) ?_
                  refine Run.seq ?_
                  refine Run.seq ?_
                  refine Run.region ?_
                  refine Run.q (v := .agg #[.slice A_u241 (pl.length) c_u241, .slice A_u251 (tl.length) c_u251]) rfl (OpQ.y (OpY.loadN (cs := [.slice A_u241 (pl.length) c_u241, .slice A_u251 (tl.length) c_u251]) Tagg_48 rfl (Cells.blk (.tail _ (.tail _ (List.Mem.head _))) ⟨rfl, rfl, trivial⟩))) ?_
                  refine Run.q (v := .agg #[x, y]) rfl (OpQ.y (OpY.loadN (cs := [x, y]) Tagg_48 rfl (Cells.blk (.tail _ (.tail _ (.tail _ (.tail _ (.tail _ (.tail _ (.tail _ (.tail _ (.tail _ (.tail _ (.tail _ (.tail _ (.tail _ (.tail _ (List.Mem.head _))))))))))))))) ⟨rfl, rfl, trivial⟩))) ?_
                  refine Run.q (v := .bool true) rfl (OpQ.call (vs := [.agg #[.slice A_u241 (pl.length) c_u241, .slice A_u251 (tl.length) c_u251], .agg #[x, y]]) (caps := []) Tcall_18 rfl rfl (fun w hs => eqRoute_true (hs.slOwn (.head _)) (hs.slOwn (.tail _ (List.Mem.head _))) (hs.slOwn (.tail _ (.tail _ (.tail _ (.tail _ (.tail _ (.tail _ (.tail _ (.tail _ (.tail _ (.tail _ (.tail _ (.tail _ (.tail _ (.tail _ (.tail _ (List.Mem.head _))))))))))))))))) (hs.slOwn (.tail _ (.tail _ (.tail _ (.tail _ (.tail _ (.tail _ (.tail _ (.tail _ (.tail _ (.tail _ (.tail _ (.tail _ (.tail _ (.tail _ (.tail _ (.tail _ (List.Mem.head _)))))))))))))))))))) ?_
                  refine Run.q (v := .bool false) rfl (OpQ.y (OpY.pure rfl)) ?_
                  refine Run.q (v := .bool false) rfl (OpQ.y (OpY.pure rfl)) ?_
                  refine Run.q (v := .bool ok) rfl (OpQ.y (OpY.pure rfl)) ?_
                  refine Run.q (v := .bool ok) rfl (OpQ.y (OpY.pure rfl)) ?_
                  refine Run.q (v := .bool false) rfl (OpQ.y (OpY.neqBSame Tbool_4 rfl rfl rfl)) ?_
                  refine Run.q (v := .bool false) rfl (OpQ.y (OpY.pure rfl)) ?_
                  refine Run.done ?_
                  refine Run.cond (b := false) rfl (fun h => nomatch h) (fun _ => ?_)
                  refine Run.skip ?_
                  refine Run.seq ?_
                  refine Run.region ?_
                  refine Run.q (v := .int .i64 1) rfl (OpQ.y (OpY.pure rfl)) ?_
                  refine Run.done ?_
                  refine Run.seq ?_
                  refine Run.region ?_
                  refine Run.q (v := .agg #[.slice A_u161 (pl.length) c_u161, .slice A_u171 (tl.length) c_u171]) rfl (OpQ.y (OpY.loadN (cs := [.slice A_u161 (pl.length) c_u161, .slice A_u171 (tl.length) c_u171]) Tagg_48 rfl (Cells.blk (.tail _ (.tail _ (.tail _ (.tail _ (.tail _ (.tail _ (.tail _ (.tail _ (.tail _ (.tail _ (.tail _ (List.Mem.head _)))))))))))) ⟨rfl, rfl, trivial⟩))) ?_
                  refine Run.q (v := .int .i64 1) rfl (OpQ.y (OpY.pure rfl)) ?_
                  refine Run.q (v := .int .i64 (1 + ((pl.length : Nat) : Int) * 1 + ((tl.length : Nat) : Int) * 3)) rfl (OpQ.call (vs := [.agg #[.slice A_u161 (pl.length) c_u161, .slice A_u171 (tl.length) c_u171], .int .i64 1]) (caps := []) Tcall_23 rfl rfl (fun w hs => heldRoute_true (hs.slOwn (.tail _ (.tail _ (.tail _ (.tail _ (.tail _ (.tail _ (List.Mem.head _)))))))) (hs.slOwn (.tail _ (.tail _ (.tail _ (.tail _ (.tail _ (List.Mem.head _))))))) (by omega) (by omega) rfl rfl)) ?_
                  refine Run.q (v := .int .i64 (1 + ((pl.length : Nat) : Int) * 1 + ((tl.length : Nat) : Int) * 3)) rfl (OpQ.y (OpY.pure rfl)) ?_
                  refine Run.done ?_
                  refine Run.seq ?_
                  refine Run.seq ?_
                  refine Run.region ?_
                  refine Run.q (v := .int .i64 (1 + ((pl.length : Nat) : Int) * 1 + ((tl.length : Nat) : Int) * 3)) rfl (OpQ.y (OpY.pure rfl)) ?_
                  refine Run.q (v := .bool (decide ((1 + ((pl.length : Nat) : Int) * 1 + ((tl.length : Nat) : Int) * 3) < 0))) rfl (OpQ.y (OpY.pure rfl)) ?_
                  refine Run.done ?_
                  refine Run.cond (b := decide ((1 + ((pl.length : Nat) : Int) * 1 + ((tl.length : Nat) : Int) * 3) < 0)) rfl (fun h115 => ?_) (fun h115 => ?_)
                  · have p115 := h115; try simp only [bs] at p115
                    exact absurd h115 (by simp <;> omega) --DONE
                  · have p115 := h115; try simp only [bs] at p115
                    refine Run.skip ?_
                    refine Run.seq ?_
                    refine Run.seq ?_
                    refine Run.region ?_
                    refine Run.q (v := .int .i64 (1 + ((pl.length : Nat) : Int) * 1 + ((tl.length : Nat) : Int) * 3)) rfl (OpQ.y (OpY.pure rfl)) ?_
                    refine Run.q (v := .int .i64 (1 + ((pl.length : Nat) : Int) * 1 + ((tl.length : Nat) : Int) * 3)) rfl (OpQ.y (OpY.pure rfl)) ?_
                    refine Run.q (v := .bool false) rfl (OpQ.y (OpY.neqSame rfl rfl rfl)) ?_
                    refine Run.done ?_
                    refine Run.cond (b := false) rfl (fun h => nomatch h) (fun _ => ?_)
                    refine Run.skip ?_
                    refine Run.seq ?_
                    refine Run.region ?_
                    refine Run.q (v := .bool true) rfl (OpQ.y (OpY.pure rfl)) ?_
                    refine Run.done ?_
                    refine Run.ret ?_
                    refine ⟨.bool true, [], Out.one rfl rfl, (Some'.weak (.nil _)), ?_⟩
                    rfl
              · refine OpStep.alloc (zs := [.slice none 0 0, .slice none 0 0]) Tzero_48 fun b12 => ?_
                refine ⟨(Some'.weak (.skip (.skip (.take (.take (.take (.take (.take (.take (.take (.take (.take (.take (.take (.take (.take (.take (.nil _)))))))))))))))))), ?_⟩
                refine DW.step (i := 3) (by kernel_rfl) rfl rfl (OpStep.call (vs := [.agg #[.int .i64 cQubits, cvGates]]) (caps := []) Tcall_10 rfl rfl (fun w hs => toCircuit_spec (hs.sl chGates) (by omega)) ?_)
                rintro _ _ ⟨u26, rfl, rfl⟩
                refine ⟨(Some'.weak (.skip (.skip (.skip (.take (.take (.take (.take (.take (.take (.take (.take (.take (.take (.take (.take (.take (.take (.nil _))))))))))))))))))), ?_⟩
                refine DW.step (i := 4) (by kernel_rfl) rfl rfl (OpStep.call (vs := [.agg #[.int .i64 gNodes, u20], .agg #[.int .i64 cQubits, u26]]) (caps := []) Tcall_25 rfl rfl (fun w hs => (by have h := BestRoute_spec (M := M) (N := gNodes) (Q := cQubits) hM (hs.slOwn (.tail _ (.tail _ (List.Mem.head _)))) (hs.slOwn (.head _)); rw [hpl, htl, hok] at h; exact h)) ?_)
                rintro _ _ ⟨u27, u28, rfl, rfl⟩
                refine ⟨(Some'.weak (.skip (.skip (.skip (.skip (.skip (.take (.take (.take (.take (.take (.take (.take (.take (.take (.take (.take (.take (.take (.take (.nil _))))))))))))))))))))), ?_⟩
                refine DW.take (i := 5) (v := .tuple #[.agg #[u27, u28], .bool ok]) rfl (by kernel_rfl) (by kernel_rfl) (by kernel_rfl) (fun _ _ _ h => h) (Some'.weak (.skip (.skip (.skip (.skip (.skip (.take (.take (.take (.take (.take (.take (.take (.take (.take (.take (.take (.take (.take (.take (.nil _))))))))))))))))))))) rfl (OpY.pure rfl) ?_
                refine DW.take (i := 6) (v := .agg #[u27, u28]) rfl (by kernel_rfl) (by kernel_rfl) (by kernel_rfl) (fun _ _ _ h => h) (Some'.weak (.skip (.skip (.skip (.skip (.skip (.take (.take (.take (.take (.take (.take (.take (.take (.take (.take (.take (.take (.take (.take (.nil _))))))))))))))))))))) rfl (OpY.pure rfl) ?_
                refine DW.take (i := 7) (v := .bool ok) rfl (by kernel_rfl) (by kernel_rfl) (by kernel_rfl) (fun _ _ _ h => h) (Some'.weak (.skip (.skip (.skip (.skip (.skip (.take (.take (.take (.take (.take (.take (.take (.take (.take (.take (.take (.take (.take (.take (.nil _))))))))))))))))))))) rfl (OpY.pure rfl) ?_
                refine DW.formOwn (.head _) (fun A_u271 c_u271 hv hcapc_u271 hmaxc_u271 => ?_)
                subst hv
                refine DW.formOwn (.tail _ (List.Mem.head _)) (fun A_u281 c_u281 hv hcapc_u281 hmaxc_u281 => ?_)
                subst hv
                refine DW.step (i := 9) (by kernel_rfl) rfl rfl (OpStep.storeAll (us := [.slice A_u271 (pl.length) c_u271, .slice A_u281 (tl.length) c_u281]) Tsize_48 rfl rfl rfl (.there _ (.there _ (.there _ (.here _)))) rfl ?_)
                refine ⟨(Some'.weak (.skip (.skip (.skip (.skip (.skip (.take (.take (.take (.take (.take (.take (.take (.take (.take (.take (.take (.take (.take (.take (.nil _))))))))))))))))))))), ?_⟩
                refine DW.take (i := 10) (v := .bool ok) rfl (by kernel_rfl) (by kernel_rfl) (by kernel_rfl) (fun _ _ _ h => h) (Some'.weak (.skip (.skip (.skip (.skip (.skip (.take (.take (.take (.take (.take (.take (.take (.take (.take (.take (.take (.take (.take (.take (.nil _))))))))))))))))))))) rfl (OpY.pure rfl) ?_
                refine DW.done (by kernel_rfl) ?_
                refine Run.seq ?_
                refine Run.seq ?_
                refine Run.region ?_
                refine Run.q (v := .agg #[.slice A_u271 (pl.length) c_u271, .slice A_u281 (tl.length) c_u281]) rfl (OpQ.y (OpY.loadN (cs := [.slice A_u271 (pl.length) c_u271, .slice A_u281 (tl.length) c_u281]) Tagg_48 rfl (Cells.blk (.tail _ (.tail _ (.tail _ (List.Mem.head _)))) ⟨rfl, rfl, trivial⟩))) ?_
                refine Run.q (v := .agg #[x, y]) rfl (OpQ.y (OpY.loadN (cs := [x, y]) Tagg_48 rfl (Cells.blk (.tail _ (.tail _ (.tail _ (.tail _ (.tail _ (.tail _ (.tail _ (.tail _ (.tail _ (.tail _ (.tail _ (.tail _ (.tail _ (.tail _ (List.Mem.head _))))))))))))))) ⟨rfl, rfl, trivial⟩))) ?_
                refine Run.q (v := .bool true) rfl (OpQ.call (vs := [.agg #[.slice A_u271 (pl.length) c_u271, .slice A_u281 (tl.length) c_u281], .agg #[x, y]]) (caps := []) Tcall_18 rfl rfl (fun w hs => eqRoute_true (hs.slOwn (.head _)) (hs.slOwn (.tail _ (List.Mem.head _))) (hs.slOwn (.tail _ (.tail _ (.tail _ (.tail _ (.tail _ (.tail _ (.tail _ (.tail _ (.tail _ (.tail _ (.tail _ (.tail _ (.tail _ (.tail _ (.tail _ (List.Mem.head _))))))))))))))))) (hs.slOwn (.tail _ (.tail _ (.tail _ (.tail _ (.tail _ (.tail _ (.tail _ (.tail _ (.tail _ (.tail _ (.tail _ (.tail _ (.tail _ (.tail _ (.tail _ (.tail _ (List.Mem.head _)))))))))))))))))))) ?_
                refine Run.q (v := .bool false) rfl (OpQ.y (OpY.pure rfl)) ?_
                refine Run.q (v := .bool false) rfl (OpQ.y (OpY.pure rfl)) ?_
                refine Run.q (v := .bool ok) rfl (OpQ.y (OpY.pure rfl)) ?_
                refine Run.q (v := .bool ok) rfl (OpQ.y (OpY.pure rfl)) ?_
                refine Run.q (v := .bool false) rfl (OpQ.y (OpY.neqBSame Tbool_4 rfl rfl rfl)) ?_
                refine Run.q (v := .bool false) rfl (OpQ.y (OpY.pure rfl)) ?_
                refine Run.done ?_
                refine Run.cond (b := false) rfl (fun h => nomatch h) (fun _ => ?_)
                refine Run.skip ?_
                refine Run.seq ?_
                refine Run.region ?_
                refine Run.q (v := .int .i64 1) rfl (OpQ.y (OpY.pure rfl)) ?_
                refine Run.done ?_
                refine Run.seq ?_
                refine Run.region ?_
                refine Run.q (v := .agg #[.slice A_u161 (pl.length) c_u161, .slice A_u171 (tl.length) c_u171]) rfl (OpQ.y (OpY.loadN (cs := [.slice A_u161 (pl.length) c_u161, .slice A_u171 (tl.length) c_u171]) Tagg_48 rfl (Cells.blk (.tail _ (.tail _ (.tail _ (.tail _ (.tail _ (.tail _ (.tail _ (.tail _ (.tail _ (.tail _ (.tail _ (List.Mem.head _)))))))))))) ⟨rfl, rfl, trivial⟩))) ?_
                refine Run.q (v := .int .i64 1) rfl (OpQ.y (OpY.pure rfl)) ?_
                refine Run.q (v := .int .i64 (1 + ((pl.length : Nat) : Int) * 1 + ((tl.length : Nat) : Int) * 3)) rfl (OpQ.call (vs := [.agg #[.slice A_u161 (pl.length) c_u161, .slice A_u171 (tl.length) c_u171], .int .i64 1]) (caps := []) Tcall_23 rfl rfl (fun w hs => heldRoute_true (hs.slOwn (.tail _ (.tail _ (.tail _ (.tail _ (.tail _ (.tail _ (List.Mem.head _)))))))) (hs.slOwn (.tail _ (.tail _ (.tail _ (.tail _ (.tail _ (List.Mem.head _))))))) (by omega) (by omega) rfl rfl)) ?_
                refine Run.q (v := .int .i64 (1 + ((pl.length : Nat) : Int) * 1 + ((tl.length : Nat) : Int) * 3)) rfl (OpQ.y (OpY.pure rfl)) ?_
                refine Run.done ?_
                refine Run.seq ?_
                refine Run.seq ?_
                refine Run.region ?_
                refine Run.q (v := .int .i64 (1 + ((pl.length : Nat) : Int) * 1 + ((tl.length : Nat) : Int) * 3)) rfl (OpQ.y (OpY.pure rfl)) ?_
                refine Run.q (v := .bool (decide ((1 + ((pl.length : Nat) : Int) * 1 + ((tl.length : Nat) : Int) * 3) < 0))) rfl (OpQ.y (OpY.pure rfl)) ?_
                refine Run.done ?_
                refine Run.cond (b := decide ((1 + ((pl.length : Nat) : Int) * 1 + ((tl.length : Nat) : Int) * 3) < 0)) rfl (fun h115 => ?_) (fun h115 => ?_)
                · have p115 := h115; try simp only [bs] at p115
                  exact absurd h115 (by simp <;> omega) --DONE
                · have p115 := h115; try simp only [bs] at p115
                  refine Run.skip ?_
                  refine Run.seq ?_
                  refine Run.seq ?_
                  refine Run.region ?_
                  refine Run.q (v := .int .i64 (1 + ((pl.length : Nat) : Int) * 1 + ((tl.length : Nat) : Int) * 3)) rfl (OpQ.y (OpY.pure rfl)) ?_
                  refine Run.q (v := .int .i64 (1 + ((pl.length : Nat) : Int) * 1 + ((tl.length : Nat) : Int) * 3)) rfl (OpQ.y (OpY.pure rfl)) ?_
                  refine Run.q (v := .bool false) rfl (OpQ.y (OpY.neqSame rfl rfl rfl)) ?_
                  refine Run.done ?_
                  refine Run.cond (b := false) rfl (fun h => nomatch h) (fun _ => ?_)
                  refine Run.skip ?_
                  refine Run.seq ?_
                  refine Run.region ?_
                  refine Run.q (v := .bool true) rfl (OpQ.y (OpY.pure rfl)) ?_
                  refine Run.done ?_
                  refine Run.ret ?_
                  refine ⟨.bool true, [], Out.one rfl rfl, (Some'.weak (.nil _)), ?_⟩
                  rfl
            · refine OpStep.alloc (zs := [.slice none 0 0, .slice none 0 0]) Tzero_48 fun b13 => ?_
              refine ⟨(Some'.weak (.skip (.take (.take (.take (.take (.take (.take (.take (.take (.take (.take (.take (.take (.take (.take (.nil _))))))))))))))))), ?_⟩
              refine DW.step (i := 1) (by kernel_rfl) rfl rfl (OpStep.call (vs := [.agg #[.int .i64 gNodes, gvEdges]]) (caps := []) Tcall_9 rfl rfl (fun w hs => toCouplingGraph_spec (hs.sl ghEdges) (by omega)) ?_)
              rintro _ _ ⟨u29, rfl, rfl⟩
              refine ⟨(Some'.weak (.skip (.skip (.take (.take (.take (.take (.take (.take (.take (.take (.take (.take (.take (.take (.take (.take (.nil _)))))))))))))))))), ?_⟩
              refine DW.step (i := 3) (by kernel_rfl) rfl rfl (OpStep.call (vs := [.agg #[.int .i64 cQubits, cvGates]]) (caps := []) Tcall_10 rfl rfl (fun w hs => toCircuit_spec (hs.sl chGates) (by omega)) ?_)
              rintro _ _ ⟨u30, rfl, rfl⟩
              refine ⟨(Some'.weak (.skip (.skip (.skip (.take (.take (.take (.take (.take (.take (.take (.take (.take (.take (.take (.take (.take (.take (.nil _))))))))))))))))))), ?_⟩
              refine DW.step (i := 4) (by kernel_rfl) rfl rfl (OpStep.call (vs := [.agg #[.int .i64 gNodes, u29], .agg #[.int .i64 cQubits, u30]]) (caps := []) Tcall_25 rfl rfl (fun w hs => (by have h := BestRoute_spec (M := M) (N := gNodes) (Q := cQubits) hM (hs.slOwn (.tail _ (List.Mem.head _))) (hs.slOwn (.head _)); rw [hpl, htl, hok] at h; exact h)) ?_)
              rintro _ _ ⟨u31, u32, rfl, rfl⟩
              refine ⟨(Some'.weak (.skip (.skip (.skip (.skip (.skip (.take (.take (.take (.take (.take (.take (.take (.take (.take (.take (.take (.take (.take (.take (.nil _))))))))))))))))))))), ?_⟩
              refine DW.take (i := 5) (v := .tuple #[.agg #[u31, u32], .bool ok]) rfl (by kernel_rfl) (by kernel_rfl) (by kernel_rfl) (fun _ _ _ h => h) (Some'.weak (.skip (.skip (.skip (.skip (.skip (.take (.take (.take (.take (.take (.take (.take (.take (.take (.take (.take (.take (.take (.take (.nil _))))))))))))))))))))) rfl (OpY.pure rfl) ?_
              refine DW.take (i := 6) (v := .agg #[u31, u32]) rfl (by kernel_rfl) (by kernel_rfl) (by kernel_rfl) (fun _ _ _ h => h) (Some'.weak (.skip (.skip (.skip (.skip (.skip (.take (.take (.take (.take (.take (.take (.take (.take (.take (.take (.take (.take (.take (.take (.nil _))))))))))))))))))))) rfl (OpY.pure rfl) ?_
              refine DW.take (i := 7) (v := .bool ok) rfl (by kernel_rfl) (by kernel_rfl) (by kernel_rfl) (fun _ _ _ h => h) (Some'.weak (.skip (.skip (.skip (.skip (.skip (.take (.take (.take (.take (.take (.take (.take (.take (.take (.take (.take (.take (.take (.take (.nil _))))))))))))))))))))) rfl (OpY.pure rfl) ?_
              refine DW.formOwn (.head _) (fun A_u311 c_u311 hv hcapc_u311 hmaxc_u311 => ?_)
              subst hv
              refine DW.formOwn (.tail _ (List.Mem.head _)) (fun A_u321 c_u321 hv hcapc_u321 hmaxc_u321 => ?_)
              subst hv
              refine DW.step (i := 9) (by kernel_rfl) rfl rfl (OpStep.storeAll (us := [.slice A_u311 (pl.length) c_u311, .slice A_u321 (tl.length) c_u321]) Tsize_48 rfl rfl rfl (.there _ (.there _ (.there _ (.there _ (.here _))))) rfl ?_)
              refine ⟨(Some'.weak (.skip (.skip (.skip (.skip (.skip (.take (.take (.take (.take (.take (.take (.take (.take (.take (.take (.take (.take (.take (.take (.nil _))))))))))))))))))))), ?_⟩
              refine DW.take (i := 10) (v := .bool ok) rfl (by kernel_rfl) (by kernel_rfl) (by kernel_rfl) (fun _ _ _ h => h) (Some'.weak (.skip (.skip (.skip (.skip (.skip (.take (.take (.take (.take (.take (.take (.take (.take (.take (.take (.take (.take (.take (.take (.nil _))))))))))))))))))))) rfl (OpY.pure rfl) ?_
              refine DW.done (by kernel_rfl) ?_
              refine Run.seq ?_
              refine Run.seq ?_
              refine Run.region ?_
              refine Run.q (v := .agg #[.slice A_u311 (pl.length) c_u311, .slice A_u321 (tl.length) c_u321]) rfl (OpQ.y (OpY.loadN (cs := [.slice A_u311 (pl.length) c_u311, .slice A_u321 (tl.length) c_u321]) Tagg_48 rfl (Cells.blk (.tail _ (.tail _ (.tail _ (.tail _ (List.Mem.head _))))) ⟨rfl, rfl, trivial⟩))) ?_
              refine Run.q (v := .agg #[x, y]) rfl (OpQ.y (OpY.loadN (cs := [x, y]) Tagg_48 rfl (Cells.blk (.tail _ (.tail _ (.tail _ (.tail _ (.tail _ (.tail _ (.tail _ (.tail _ (.tail _ (.tail _ (.tail _ (.tail _ (.tail _ (.tail _ (List.Mem.head _))))))))))))))) ⟨rfl, rfl, trivial⟩))) ?_
              refine Run.q (v := .bool true) rfl (OpQ.call (vs := [.agg #[.slice A_u311 (pl.length) c_u311, .slice A_u321 (tl.length) c_u321], .agg #[x, y]]) (caps := []) Tcall_18 rfl rfl (fun w hs => eqRoute_true (hs.slOwn (.head _)) (hs.slOwn (.tail _ (List.Mem.head _))) (hs.slOwn (.tail _ (.tail _ (.tail _ (.tail _ (.tail _ (.tail _ (.tail _ (.tail _ (.tail _ (.tail _ (.tail _ (.tail _ (.tail _ (.tail _ (.tail _ (List.Mem.head _))))))))))))))))) (hs.slOwn (.tail _ (.tail _ (.tail _ (.tail _ (.tail _ (.tail _ (.tail _ (.tail _ (.tail _ (.tail _ (.tail _ (.tail _ (.tail _ (.tail _ (.tail _ (.tail _ (List.Mem.head _)))))))))))))))))))) ?_
              refine Run.q (v := .bool false) rfl (OpQ.y (OpY.pure rfl)) ?_
              refine Run.q (v := .bool false) rfl (OpQ.y (OpY.pure rfl)) ?_
              refine Run.q (v := .bool ok) rfl (OpQ.y (OpY.pure rfl)) ?_
              refine Run.q (v := .bool ok) rfl (OpQ.y (OpY.pure rfl)) ?_
              refine Run.q (v := .bool false) rfl (OpQ.y (OpY.neqBSame Tbool_4 rfl rfl rfl)) ?_
              refine Run.q (v := .bool false) rfl (OpQ.y (OpY.pure rfl)) ?_
              refine Run.done ?_
              refine Run.cond (b := false) rfl (fun h => nomatch h) (fun _ => ?_)
              refine Run.skip ?_
              refine Run.seq ?_
              refine Run.region ?_
              refine Run.q (v := .int .i64 1) rfl (OpQ.y (OpY.pure rfl)) ?_
              refine Run.done ?_
              refine Run.seq ?_
              refine Run.region ?_
              refine Run.q (v := .agg #[.slice A_u161 (pl.length) c_u161, .slice A_u171 (tl.length) c_u171]) rfl (OpQ.y (OpY.loadN (cs := [.slice A_u161 (pl.length) c_u161, .slice A_u171 (tl.length) c_u171]) Tagg_48 rfl (Cells.blk (.tail _ (.tail _ (.tail _ (.tail _ (.tail _ (.tail _ (.tail _ (.tail _ (.tail _ (.tail _ (.tail _ (List.Mem.head _)))))))))))) ⟨rfl, rfl, trivial⟩))) ?_
              refine Run.q (v := .int .i64 1) rfl (OpQ.y (OpY.pure rfl)) ?_
              refine Run.q (v := .int .i64 (1 + ((pl.length : Nat) : Int) * 1 + ((tl.length : Nat) : Int) * 3)) rfl (OpQ.call (vs := [.agg #[.slice A_u161 (pl.length) c_u161, .slice A_u171 (tl.length) c_u171], .int .i64 1]) (caps := []) Tcall_23 rfl rfl (fun w hs => heldRoute_true (hs.slOwn (.tail _ (.tail _ (.tail _ (.tail _ (.tail _ (.tail _ (List.Mem.head _)))))))) (hs.slOwn (.tail _ (.tail _ (.tail _ (.tail _ (.tail _ (List.Mem.head _))))))) (by omega) (by omega) rfl rfl)) ?_
              refine Run.q (v := .int .i64 (1 + ((pl.length : Nat) : Int) * 1 + ((tl.length : Nat) : Int) * 3)) rfl (OpQ.y (OpY.pure rfl)) ?_
              refine Run.done ?_
              refine Run.seq ?_
              refine Run.seq ?_
              refine Run.region ?_
              refine Run.q (v := .int .i64 (1 + ((pl.length : Nat) : Int) * 1 + ((tl.length : Nat) : Int) * 3)) rfl (OpQ.y (OpY.pure rfl)) ?_
              refine Run.q (v := .bool (decide ((1 + ((pl.length : Nat) : Int) * 1 + ((tl.length : Nat) : Int) * 3) < 0))) rfl (OpQ.y (OpY.pure rfl)) ?_
              refine Run.done ?_
              refine Run.cond (b := decide ((1 + ((pl.length : Nat) : Int) * 1 + ((tl.length : Nat) : Int) * 3) < 0)) rfl (fun h115 => ?_) (fun h115 => ?_)
              · have p115 := h115; try simp only [bs] at p115
                exact absurd h115 (by simp <;> omega) --DONE
              · have p115 := h115; try simp only [bs] at p115
                refine Run.skip ?_
                refine Run.seq ?_
                refine Run.seq ?_
                refine Run.region ?_
                refine Run.q (v := .int .i64 (1 + ((pl.length : Nat) : Int) * 1 + ((tl.length : Nat) : Int) * 3)) rfl (OpQ.y (OpY.pure rfl)) ?_
                refine Run.q (v := .int .i64 (1 + ((pl.length : Nat) : Int) * 1 + ((tl.length : Nat) : Int) * 3)) rfl (OpQ.y (OpY.pure rfl)) ?_
                refine Run.q (v := .bool false) rfl (OpQ.y (OpY.neqSame rfl rfl rfl)) ?_
                refine Run.done ?_
                refine Run.cond (b := false) rfl (fun h => nomatch h) (fun _ => ?_)
                refine Run.skip ?_
                refine Run.seq ?_
                refine Run.region ?_
                refine Run.q (v := .bool true) rfl (OpQ.y (OpY.pure rfl)) ?_
                refine Run.done ?_
                refine Run.ret ?_
                refine ⟨.bool true, [], Out.one rfl rfl, (Some'.weak (.nil _)), ?_⟩
                rfl

end Go.Proofs.Ytekikmdjldincaa
