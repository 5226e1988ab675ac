/- The walk of the law FnExactRouteFrom. -/
import Derived.Test.YtekikmdjldincaaLst
import Derived.Test.YtekikmdjldincaaRo
import Derived.Test.YtekikmdjldincaaInts
import Derived.Test.YtekikmdjldincaaProg
set_option linter.unusedSimpArgs false
set_option linter.unusedVariables false
namespace Go.Proofs.Ytekikmdjldincaa
open Go Go.RowKit
namespace L49T
theorem Tagg_24 : aggOf Try.prog 24 = some 2 := by kernel_rfl
theorem Tagg_27 : aggOf Try.prog 27 = some 2 := by kernel_rfl
theorem Tagg_35 : aggOf Try.prog 35 = some 2 := by kernel_rfl
theorem Tagg_39 : aggOf Try.prog 39 = some 2 := by kernel_rfl
theorem Tagg_48 : aggOf Try.prog 48 = some 2 := by kernel_rfl
theorem Tbool_4 : Try.prog.underlying 4 = some .bool := by kernel_rfl
theorem Tcall_10 : callable Try.prog 10 = true := by kernel_rfl
theorem Tcall_11 : callable Try.prog 11 = true := by kernel_rfl
theorem Tcall_13 : callable Try.prog 13 = true := by kernel_rfl
theorem Tcall_14 : callable Try.prog 14 = true := by kernel_rfl
theorem Tcall_15 : callable Try.prog 15 = true := by kernel_rfl
theorem Tcall_16 : callable Try.prog 16 = true := by kernel_rfl
theorem Tcall_17 : callable Try.prog 17 = true := by kernel_rfl
theorem Tcall_18 : callable Try.prog 18 = true := by kernel_rfl
theorem Tcall_19 : callable Try.prog 19 = true := by kernel_rfl
theorem Tcall_20 : callable Try.prog 20 = true := by kernel_rfl
theorem Tcall_21 : callable Try.prog 21 = true := by kernel_rfl
theorem Tcall_22 : callable Try.prog 22 = true := by kernel_rfl
theorem Tcall_23 : callable Try.prog 23 = true := by kernel_rfl
theorem Tcall_6 : callable Try.prog 6 = true := by kernel_rfl
theorem Tcall_7 : callable Try.prog 7 = true := by kernel_rfl
theorem Tcall_9 : callable Try.prog 9 = true := by kernel_rfl
theorem Tsize_35 : (Try.prog.info? 35).map (·.size) = some 2 := by kernel_rfl
theorem Tsize_39 : (Try.prog.info? 39).map (·.size) = some 2 := by kernel_rfl
theorem Tsize_48 : (Try.prog.info? 48).map (·.size) = some 2 := by kernel_rfl
theorem Tsl_28 : sliceOf Try.prog 28 = some (3, 1, 8, [.int .i64 0]) := by kernel_rfl
theorem Tzero_35 : zeroOf Try.prog 35 = some [.int .i64 0, .slice none 0 0] := by kernel_rfl
theorem Tzero_39 : zeroOf Try.prog 39 = some [.int .i64 0, .slice none 0 0] := by kernel_rfl
theorem Tzero_48 : zeroOf Try.prog 48 = some [.slice none 0 0, .slice none 0 0] := by kernel_rfl
end L49T
open L49T
set_option maxHeartbeats 1000000 in
set_option maxRecDepth 20000 in
theorem law_spec {gNodes : Int} {gvEdges : Value} {gnEdges : Nat} {gxEdges : List Int} {cQubits : Int} {cvGates : Value} {cnGates : Nat} {cxGates : List Int} {pv : Value} {pn : Nat} {px : List Int} {w : World} (gwNodes : In64 gNodes) (ghEdges : Sl w gvEdges 2 gnEdges (ints gxEdges)) (gwEdges : ∀ x ∈ gxEdges, In64 x) (cwQubits : In64 cQubits) (chGates : Sl w cvGates 3 cnGates (ints cxGates)) (cwGates : ∀ x ∈ cxGates, In64 x) (ph : Sl w pv 1 pn (ints px)) (pw : ∀ x ∈ px, In64 x) : Calls Try.prog 4 #[.agg #[.int .i64 gNodes, gvEdges], .agg #[.int .i64 cQubits, cvGates], pv] w (Post No w fun v _ => v = .bool true) := by
  obtain ⟨pA, pc, rfl, _, _⟩ := ph.form0
  obtain ⟨M, hM⟩ : ∃ M : Nat, 12800000 < M := ⟨12800001, by decide⟩
  have hpl0 : px.length = pn := by have := ph.len; omega
  obtain ⟨hlen1, hlen2⟩ := rt_bnd (M := M) (N := gNodes) (es := gxEdges) (m := gnEdges) (Q := cQubits) (xs := cxGates) (n := cnGates) hpl0
  obtain ⟨pl, hpl⟩ : ∃ x, rtS M gNodes gxEdges gnEdges cQubits cxGates cnGates px pn = x := ⟨_, rfl⟩
  obtain ⟨tl, htl⟩ : ∃ x, rtL M gNodes gxEdges gnEdges cQubits cxGates cnGates px pn = x := ⟨_, rfl⟩
  obtain ⟨ok, hok⟩ : ∃ x, rtB M gNodes gxEdges gnEdges cQubits cxGates cnGates px pn = x := ⟨_, rfl⟩
  rw [hpl] at hlen1
  rw [htl] at hlen2
  refine enter (n := 140) (args := [.agg #[.int .i64 gNodes, gvEdges], .agg #[.int .i64 cQubits, cvGates], .slice pA pn pc]) Try.func4 rfl rfl (St.empty _ _) ?_
  refine Run.seq ?_
  refine Run.region ?_
  refine Run.step rfl (OpStep.box (us := [.int .i64 gNodes, gvEdges]) rfl fun b1 => ?_)
  refine Run.step rfl (OpStep.box (us := [.int .i64 cQubits, cvGates]) rfl fun b2 => ?_)
  refine Run.q (v := .bool false) rfl (OpQ.y (OpY.pure rfl)) ?_
  refine Run.done ?_
  refine Run.seq ?_
  refine Run.seq ?_
  refine Run.region ?_
  refine Run.q (v := .slice pA pn pc) rfl (OpQ.y (OpY.pure rfl)) ?_
  refine Run.q (v := .int .i64 (((pn : Nat) : Int))) rfl (OpQ.y (OpY.len Tsl_28 rfl)) ?_
  refine Run.q (v := .bool (decide ((((pn : Nat) : Int)) > 1048576))) rfl (OpQ.y (OpY.pure rfl)) ?_
  refine Run.done ?_
  refine Run.cond (b := decide ((((pn : Nat) : Int)) > 1048576)) rfl (fun h22 => ?_) (fun h22 => ?_)
  · have p22 := h22; try simp only [bs] at p22
    refine Run.seq ?_
    refine Run.region ?_
    refine Run.q (v := .bool true) rfl (OpQ.y (OpY.pure rfl)) ?_
    refine Run.done ?_
    refine Run.ret ?_
    refine ⟨.bool true, [], Out.one rfl rfl, (Some'.weak (.nil _)), ?_⟩
    rfl
  · have p22 := h22; try simp only [bs] at p22
    refine Run.skip ?_
    refine Run.seq ?_
    refine Run.region ?_
    refine Run.q (v := .int .i64 1048576) rfl (OpQ.y (OpY.pure rfl)) ?_
    refine Run.done ?_
    refine Run.seq ?_
    refine Run.region ?_
    refine Run.q (v := .agg #[.int .i64 gNodes, gvEdges]) rfl (OpQ.y (OpY.loadN (cs := [.int .i64 gNodes, gvEdges]) Tagg_24 rfl (Cells.blk (.tail _ (List.Mem.head _)) ⟨rfl, rfl, trivial⟩))) ?_
    refine Run.q (v := .int .i64 1048576) rfl (OpQ.y (OpY.pure rfl)) ?_
    refine Run.q (v := .int .i64 (szN 1048576 [gnEdges])) rfl (OpQ.call (vs := [.agg #[.int .i64 gNodes, gvEdges], .int .i64 1048576]) (caps := []) Tcall_6 rfl rfl (fun w hs => szCouplingGraph_spec (hs.sl ghEdges) (by omega) (by omega))) ?_
    refine Run.q (v := .int .i64 (szN 1048576 [gnEdges])) rfl (OpQ.y (OpY.pure rfl)) ?_
    refine Run.done ?_
    refine Run.seq ?_
    refine Run.seq ?_
    refine Run.region ?_
    refine Run.q (v := .int .i64 (szN 1048576 [gnEdges])) rfl (OpQ.y (OpY.pure rfl)) ?_
    refine Run.q (v := .bool (decide ((szN 1048576 [gnEdges]) < 0))) rfl (OpQ.y (OpY.pure rfl)) ?_
    refine Run.done ?_
    refine Run.cond (b := decide ((szN 1048576 [gnEdges]) < 0)) rfl (fun h27 => ?_) (fun h27 => ?_)
    · have p27 := h27; try simp only [bs] at p27
      refine Run.seq ?_
      refine Run.region ?_
      refine Run.q (v := .bool true) rfl (OpQ.y (OpY.pure rfl)) ?_
      refine Run.done ?_
      refine Run.ret ?_
      refine ⟨.bool true, [], Out.one rfl rfl, (Some'.weak (.nil _)), ?_⟩
      rfl
    · have p27 := h27; try simp only [bs] at p27
      have hz27 := szN_bound (ns := [gnEdges]) (l := 1048576) p27
      have hz27gnEdges := hz27 gnEdges (by simp)
      refine Run.skip ?_
      refine Run.seq ?_
      refine Run.region ?_
      refine Run.q (v := .agg #[.int .i64 cQubits, cvGates]) rfl (OpQ.y (OpY.loadN (cs := [.int .i64 cQubits, cvGates]) Tagg_27 rfl (Cells.blk (.head _) ⟨rfl, rfl, trivial⟩))) ?_
      refine Run.q (v := .int .i64 (szN 1048576 [gnEdges])) rfl (OpQ.y (OpY.pure rfl)) ?_
      refine Run.q (v := .int .i64 (szN (szN 1048576 [gnEdges]) [cnGates])) rfl (OpQ.call (vs := [.agg #[.int .i64 cQubits, cvGates], .int .i64 (szN 1048576 [gnEdges])]) (caps := []) Tcall_7 rfl rfl (fun w hs => szCircuit_spec (hs.sl chGates) (by omega) (by omega))) ?_
      refine Run.q (v := .int .i64 (szN (szN 1048576 [gnEdges]) [cnGates])) rfl (OpQ.y (OpY.pure rfl)) ?_
      refine Run.done ?_
      refine Run.seq ?_
      refine Run.seq ?_
      refine Run.region ?_
      refine Run.q (v := .int .i64 (szN (szN 1048576 [gnEdges]) [cnGates])) rfl (OpQ.y (OpY.pure rfl)) ?_
      refine Run.q (v := .bool (decide ((szN (szN 1048576 [gnEdges]) [cnGates]) < 0))) rfl (OpQ.y (OpY.pure rfl)) ?_
      refine Run.done ?_
      refine Run.cond (b := decide ((szN (szN 1048576 [gnEdges]) [cnGates]) < 0)) rfl (fun h32 => ?_) (fun h32 => ?_)
      · have p32 := h32; try simp only [bs] at p32
        refine Run.seq ?_
        refine Run.region ?_
        refine Run.q (v := .bool true) rfl (OpQ.y (OpY.pure rfl)) ?_
        refine Run.done ?_
        refine Run.ret ?_
        refine ⟨.bool true, [], Out.one rfl rfl, (Some'.weak (.nil _)), ?_⟩
        rfl
      · have p32 := h32; try simp only [bs] at p32
        have hz32 := szN_bound (ns := [cnGates]) (l := (szN 1048576 [gnEdges])) p32
        have hz32cnGates := hz32 cnGates (by simp)
        refine Run.skip ?_
        refine Run.seq ?_
        refine Run.cut (ι := Nat × Value × Value) [8, 9, 33, 34, 35, 36, 37, 38, 39, 40, 41, 42] (fun ⟨b, x, y⟩ => [(8, .pointer (some ⟨b, 0, none⟩)), (9, .bool ok)]) (fun ⟨b, x, y⟩ => [.blk b 48 [x, y], .own x 3 1 (pl.length) (ints pl), .own y 101 3 (tl.length) (ints (fl3 tl)), .blk b2 27 [.int .i64 cQubits, cvGates], .blk b1 24 [.int .i64 gNodes, gvEdges]]) (fun ⟨b, x, y⟩ => True) ?_ ?_
        · refine Run.held (by kernel_rfl) ?_
          refine DW.take (i := 0) (v := .agg #[.int .i64 gNodes, gvEdges]) rfl (by kernel_rfl) (by kernel_rfl) (by kernel_rfl) (fun _ _ _ h => h) (Weak.refl _) rfl (OpY.loadN (cs := [.int .i64 gNodes, gvEdges]) Tagg_24 rfl (Cells.blk (.tail _ (List.Mem.head _)) ⟨rfl, rfl, trivial⟩)) ?_
          refine DW.take (i := 2) (v := .agg #[.int .i64 cQubits, cvGates]) rfl (by kernel_rfl) (by kernel_rfl) (by kernel_rfl) (fun _ _ _ h => h) (Weak.refl _) rfl (OpY.loadN (cs := [.int .i64 cQubits, cvGates]) Tagg_27 rfl (Cells.blk (.head _) ⟨rfl, rfl, trivial⟩)) ?_
          refine DW.take (i := 4) (v := .slice pA pn pc) rfl (by kernel_rfl) (by kernel_rfl) (by kernel_rfl) (fun _ _ _ h => h) (Weak.refl _) rfl (OpY.pure rfl) ?_
          refine DW.two (i := 1) (j := 10) (by kernel_rfl) rfl rfl rfl rfl ?_ ?_
          · refine OpStep.call (vs := [.agg #[.int .i64 gNodes, gvEdges]]) (caps := []) Tcall_9 rfl rfl (fun w hs => toCouplingGraph_spec (hs.sl ghEdges) (by omega)) ?_
            rintro _ _ ⟨u1, rfl, rfl⟩
            refine ⟨(Some'.weak (.skip (.take (.take (.nil _))))), ?_⟩
            refine DW.two (i := 3) (j := 10) (by kernel_rfl) rfl rfl rfl rfl ?_ ?_
            · refine OpStep.call (vs := [.agg #[.int .i64 cQubits, cvGates]]) (caps := []) Tcall_10 rfl rfl (fun w hs => toCircuit_spec (hs.sl chGates) (by omega)) ?_
              rintro _ _ ⟨u2, rfl, rfl⟩
              refine ⟨(Some'.weak (.skip (.skip (.take (.take (.nil _)))))), ?_⟩
              refine DW.two (i := 5) (j := 10) (by kernel_rfl) rfl rfl rfl rfl ?_ ?_
              · refine OpStep.call (vs := [.slice pA pn pc]) (caps := []) Tcall_11 rfl rfl (fun w hs => toIntS_spec (hs.sl ph) (by omega)) ?_
                rintro u3 _ rfl
                refine ⟨(Some'.weak (.skip (.skip (.skip (.take (.take (.nil _))))))), ?_⟩
                refine DW.two (i := 6) (j := 10) (by kernel_rfl) rfl rfl rfl rfl ?_ ?_
                · refine OpStep.call (vs := [.agg #[.int .i64 gNodes, u1], .agg #[.int .i64 cQubits, u2], u3]) (caps := []) Tcall_16 rfl rfl (fun w hs => (by have h := sRouteFrom_spec (M := M) (Q := cQubits) hM gwNodes gwEdges (hs.slOwn (.tail _ (.tail _ (List.Mem.head _)))) (hs.slOwn (.tail _ (List.Mem.head _))) (hs.slOwn (.head _)); rw [hpl, htl, hok] at h; exact h)) ?_
                  rintro _ _ ⟨u4, u5, rfl, rfl⟩
                  refine ⟨(Some'.weak (.skip (.skip (.skip (.skip (.skip (.take (.take (.nil _))))))))), ?_⟩
                  refine DW.take (i := 7) (v := .tuple #[.agg #[u4, u5], .bool ok]) rfl (by kernel_rfl) (by kernel_rfl) (by kernel_rfl) (fun _ _ _ h => h) (Some'.weak (.skip (.skip (.skip (.skip (.skip (.take (.take (.nil _))))))))) rfl (OpY.pure rfl) ?_
                  refine DW.take (i := 8) (v := .agg #[u4, u5]) rfl (by kernel_rfl) (by kernel_rfl) (by kernel_rfl) (fun _ _ _ h => h) (Some'.weak (.skip (.skip (.skip (.skip (.skip (.take (.take (.nil _))))))))) rfl (OpY.pure rfl) ?_
                  refine DW.take (i := 9) (v := .bool ok) rfl (by kernel_rfl) (by kernel_rfl) (by kernel_rfl) (fun _ _ _ h => h) (Some'.weak (.skip (.skip (.skip (.skip (.skip (.take (.take (.nil _))))))))) rfl (OpY.pure rfl) ?_
                  refine DW.step (i := 10) (by kernel_rfl) rfl rfl (OpStep.alloc (zs := [.slice none 0 0, .slice none 0 0]) Tzero_48 fun b3 => ?_)
                  refine ⟨(Some'.weak (.skip (.skip (.skip (.skip (.skip (.skip (.take (.take (.nil _)))))))))), ?_⟩
                  refine DW.formOwn (.tail _ (List.Mem.head _)) (fun A_u41 c_u41 hv hcapc_u41 hmaxc_u41 => ?_)
                  subst hv
                  refine DW.formOwn (.tail _ (.tail _ (List.Mem.head _))) (fun A_u51 c_u51 hv hcapc_u51 hmaxc_u51 => ?_)
                  subst hv
                  refine DW.step (i := 11) (by kernel_rfl) rfl rfl (OpStep.storeAll (us := [.slice A_u41 (pl.length) c_u41, .slice A_u51 (tl.length) c_u51]) Tsize_48 rfl rfl rfl (.here _) rfl ?_)
                  refine ⟨(Some'.weak (.skip (.skip (.skip (.skip (.skip (.skip (.take (.take (.nil _)))))))))), ?_⟩
                  refine DW.take (i := 12) (v := .bool ok) rfl (by kernel_rfl) (by kernel_rfl) (by kernel_rfl) (fun _ _ _ h => h) (Some'.weak (.skip (.skip (.skip (.skip (.skip (.skip (.take (.take (.nil _)))))))))) rfl (OpY.pure rfl) ?_
                  refine DW.done (by kernel_rfl) ?_
                  refine Run.goal ⟨(by repeat (first | exact Same.refl _ _ | refine Same.put rfl ?_ | refine Same.over rfl rfl ?_)), (b3, .slice A_u41 (pl.length) c_u41, .slice A_u51 (tl.length) c_u51), ?_, ?_, ?_⟩
                  · trivial
                  · exact ⟨(by first | rfl | (congr 1; omega) | simp [*]), (by first | rfl | (congr 1; omega) | simp [*]), trivial⟩
                  · exact ((Weak.selF [0, 0, 0, 3, 3]).trans (Some'.weak (.takeEq (by first | rfl | simp) (.takeEq (by first | rfl | simp) (.takeEq (by first | rfl | simp) (.take (.take (.nil _))))))))
                · refine OpStep.alloc (zs := [.slice none 0 0, .slice none 0 0]) Tzero_48 fun b4 => ?_
                  refine ⟨(Some'.weak (.skip (.skip (.skip (.skip (.take (.take (.nil _)))))))), ?_⟩
                  refine DW.step (i := 6) (by kernel_rfl) rfl rfl (OpStep.call (vs := [.agg #[.int .i64 gNodes, u1], .agg #[.int .i64 cQubits, u2], u3]) (caps := []) Tcall_16 rfl rfl (fun w hs => (by have h := sRouteFrom_spec (M := M) (Q := cQubits) hM gwNodes gwEdges (hs.slOwn (.tail _ (.tail _ (.tail _ (List.Mem.head _))))) (hs.slOwn (.tail _ (.tail _ (List.Mem.head _)))) (hs.slOwn (.tail _ (List.Mem.head _))); rw [hpl, htl, hok] at h; exact h)) ?_)
                  rintro _ _ ⟨u6, u7, rfl, rfl⟩
                  refine ⟨(Some'.weak (.skip (.skip (.skip (.skip (.skip (.skip (.take (.take (.nil _)))))))))), ?_⟩
                  refine DW.take (i := 7) (v := .tuple #[.agg #[u6, u7], .bool ok]) rfl (by kernel_rfl) (by kernel_rfl) (by kernel_rfl) (fun _ _ _ h => h) (Some'.weak (.skip (.skip (.skip (.skip (.skip (.skip (.take (.take (.nil _)))))))))) rfl (OpY.pure rfl) ?_
                  refine DW.take (i := 8) (v := .agg #[u6, u7]) rfl (by kernel_rfl) (by kernel_rfl) (by kernel_rfl) (fun _ _ _ h => h) (Some'.weak (.skip (.skip (.skip (.skip (.skip (.skip (.take (.take (.nil _)))))))))) rfl (OpY.pure rfl) ?_
                  refine DW.take (i := 9) (v := .bool ok) rfl (by kernel_rfl) (by kernel_rfl) (by kernel_rfl) (fun _ _ _ h => h) (Some'.weak (.skip (.skip (.skip (.skip (.skip (.skip (.take (.take (.nil _)))))))))) rfl (OpY.pure rfl) ?_
                  refine DW.formOwn (.head _) (fun A_u61 c_u61 hv hcapc_u61 hmaxc_u61 => ?_)
                  subst hv
                  refine DW.formOwn (.tail _ (List.Mem.head _)) (fun A_u71 c_u71 hv hcapc_u71 hmaxc_u71 => ?_)
                  subst hv
                  refine DW.step (i := 11) (by kernel_rfl) rfl rfl (OpStep.storeAll (us := [.slice A_u61 (pl.length) c_u61, .slice A_u71 (tl.length) c_u71]) Tsize_48 rfl rfl rfl (.there _ (.there _ (.here _))) rfl ?_)
                  refine ⟨(Some'.weak (.skip (.skip (.skip (.skip (.skip (.skip (.take (.take (.nil _)))))))))), ?_⟩
                  refine DW.take (i := 12) (v := .bool ok) rfl (by kernel_rfl) (by kernel_rfl) (by kernel_rfl) (fun _ _ _ h => h) (Some'.weak (.skip (.skip (.skip (.skip (.skip (.skip (.take (.take (.nil _)))))))))) rfl (OpY.pure rfl) ?_
                  refine DW.done (by kernel_rfl) ?_
                  refine Run.goal ⟨(by repeat (first | exact Same.refl _ _ | refine Same.put rfl ?_ | refine Same.over rfl rfl ?_)), (b4, .slice A_u61 (pl.length) c_u61, .slice A_u71 (tl.length) c_u71), ?_, ?_, ?_⟩
                  · trivial
                  · exact ⟨(by first | rfl | (congr 1; omega) | simp [*]), (by first | rfl | (congr 1; omega) | simp [*]), trivial⟩
                  · exact ((Weak.selF [2, 0, 0, 3, 3]).trans (Some'.weak (.takeEq (by first | rfl | simp) (.takeEq (by first | rfl | simp) (.takeEq (by first | rfl | simp) (.take (.take (.nil _))))))))
              · refine OpStep.alloc (zs := [.slice none 0 0, .slice none 0 0]) Tzero_48 fun b5 => ?_
                refine ⟨(Some'.weak (.skip (.skip (.skip (.take (.take (.nil _))))))), ?_⟩
                refine DW.step (i := 5) (by kernel_rfl) rfl rfl (OpStep.call (vs := [.slice pA pn pc]) (caps := []) Tcall_11 rfl rfl (fun w hs => toIntS_spec (hs.sl ph) (by omega)) ?_)
                rintro u8 _ rfl
                refine ⟨(Some'.weak (.skip (.skip (.skip (.skip (.take (.take (.nil _)))))))), ?_⟩
                refine DW.step (i := 6) (by kernel_rfl) rfl rfl (OpStep.call (vs := [.agg #[.int .i64 gNodes, u1], .agg #[.int .i64 cQubits, u2], u8]) (caps := []) Tcall_16 rfl rfl (fun w hs => (by have h := sRouteFrom_spec (M := M) (Q := cQubits) hM gwNodes gwEdges (hs.slOwn (.tail _ (.tail _ (.tail _ (List.Mem.head _))))) (hs.slOwn (.tail _ (.tail _ (List.Mem.head _)))) (hs.slOwn (.head _)); rw [hpl, htl, hok] at h; exact h)) ?_)
                rintro _ _ ⟨u9, u10, rfl, rfl⟩
                refine ⟨(Some'.weak (.skip (.skip (.skip (.skip (.skip (.skip (.take (.take (.nil _)))))))))), ?_⟩
                refine DW.take (i := 7) (v := .tuple #[.agg #[u9, u10], .bool ok]) rfl (by kernel_rfl) (by kernel_rfl) (by kernel_rfl) (fun _ _ _ h => h) (Some'.weak (.skip (.skip (.skip (.skip (.skip (.skip (.take (.take (.nil _)))))))))) rfl (OpY.pure rfl) ?_
                refine DW.take (i := 8) (v := .agg #[u9, u10]) rfl (by kernel_rfl) (by kernel_rfl) (by kernel_rfl) (fun _ _ _ h => h) (Some'.weak (.skip (.skip (.skip (.skip (.skip (.skip (.take (.take (.nil _)))))))))) rfl (OpY.pure rfl) ?_
                refine DW.take (i := 9) (v := .bool ok) rfl (by kernel_rfl) (by kernel_rfl) (by kernel_rfl) (fun _ _ _ h => h) (Some'.weak (.skip (.skip (.skip (.skip (.skip (.skip (.take (.take (.nil _)))))))))) rfl (OpY.pure rfl) ?_
                refine DW.formOwn (.head _) (fun A_u91 c_u91 hv hcapc_u91 hmaxc_u91 => ?_)
                subst hv
                refine DW.formOwn (.tail _ (List.Mem.head _)) (fun A_u101 c_u101 hv hcapc_u101 hmaxc_u101 => ?_)
                subst hv
                refine DW.step (i := 11) (by kernel_rfl) rfl rfl (OpStep.storeAll (us := [.slice A_u91 (pl.length) c_u91, .slice A_u101 (tl.length) c_u101]) Tsize_48 rfl rfl rfl (.there _ (.there _ (.there _ (.here _)))) rfl ?_)
                refine ⟨(Some'.weak (.skip (.skip (.skip (.skip (.skip (.skip (.take (.take (.nil _)))))))))), ?_⟩
                refine DW.take (i := 12) (v := .bool ok) rfl (by kernel_rfl) (by kernel_rfl) (by kernel_rfl) (fun _ _ _ h => h) (Some'.weak (.skip (.skip (.skip (.skip (.skip (.skip (.take (.take (.nil _)))))))))) rfl (OpY.pure rfl) ?_
                refine DW.done (by kernel_rfl) ?_
                refine Run.goal ⟨(by repeat (first | exact Same.refl _ _ | refine Same.put rfl ?_ | refine Same.over rfl rfl ?_)), (b5, .slice A_u91 (pl.length) c_u91, .slice A_u101 (tl.length) c_u101), ?_, ?_, ?_⟩
                · trivial
                · exact ⟨(by first | rfl | (congr 1; omega) | simp [*]), (by first | rfl | (congr 1; omega) | simp [*]), trivial⟩
                · exact ((Weak.selF [3, 0, 0, 3, 3]).trans (Some'.weak (.takeEq (by first | rfl | simp) (.takeEq (by first | rfl | simp) (.takeEq (by first | rfl | simp) (.take (.take (.nil _))))))))
            · refine OpStep.alloc (zs := [.slice none 0 0, .slice none 0 0]) Tzero_48 fun b6 => ?_
              refine ⟨(Some'.weak (.skip (.skip (.take (.take (.nil _)))))), ?_⟩
              refine DW.step (i := 3) (by kernel_rfl) rfl rfl (OpStep.call (vs := [.agg #[.int .i64 cQubits, cvGates]]) (caps := []) Tcall_10 rfl rfl (fun w hs => toCircuit_spec (hs.sl chGates) (by omega)) ?_)
              rintro _ _ ⟨u11, rfl, rfl⟩
              refine ⟨(Some'.weak (.skip (.skip (.skip (.take (.take (.nil _))))))), ?_⟩
              refine DW.step (i := 5) (by kernel_rfl) rfl rfl (OpStep.call (vs := [.slice pA pn pc]) (caps := []) Tcall_11 rfl rfl (fun w hs => toIntS_spec (hs.sl ph) (by omega)) ?_)
              rintro u12 _ rfl
              refine ⟨(Some'.weak (.skip (.skip (.skip (.skip (.take (.take (.nil _)))))))), ?_⟩
              refine DW.step (i := 6) (by kernel_rfl) rfl rfl (OpStep.call (vs := [.agg #[.int .i64 gNodes, u1], .agg #[.int .i64 cQubits, u11], u12]) (caps := []) Tcall_16 rfl rfl (fun w hs => (by have h := sRouteFrom_spec (M := M) (Q := cQubits) hM gwNodes gwEdges (hs.slOwn (.tail _ (.tail _ (.tail _ (List.Mem.head _))))) (hs.slOwn (.tail _ (List.Mem.head _))) (hs.slOwn (.head _)); rw [hpl, htl, hok] at h; exact h)) ?_)
              rintro _ _ ⟨u13, u14, rfl, rfl⟩
              refine ⟨(Some'.weak (.skip (.skip (.skip (.skip (.skip (.skip (.take (.take (.nil _)))))))))), ?_⟩
              refine DW.take (i := 7) (v := .tuple #[.agg #[u13, u14], .bool ok]) rfl (by kernel_rfl) (by kernel_rfl) (by kernel_rfl) (fun _ _ _ h => h) (Some'.weak (.skip (.skip (.skip (.skip (.skip (.skip (.take (.take (.nil _)))))))))) rfl (OpY.pure rfl) ?_
              refine DW.take (i := 8) (v := .agg #[u13, u14]) rfl (by kernel_rfl) (by kernel_rfl) (by kernel_rfl) (fun _ _ _ h => h) (Some'.weak (.skip (.skip (.skip (.skip (.skip (.skip (.take (.take (.nil _)))))))))) rfl (OpY.pure rfl) ?_
              refine DW.take (i := 9) (v := .bool ok) rfl (by kernel_rfl) (by kernel_rfl) (by kernel_rfl) (fun _ _ _ h => h) (Some'.weak (.skip (.skip (.skip (.skip (.skip (.skip (.take (.take (.nil _)))))))))) rfl (OpY.pure rfl) ?_
              refine DW.formOwn (.head _) (fun A_u131 c_u131 hv hcapc_u131 hmaxc_u131 => ?_)
              subst hv
              refine DW.formOwn (.tail _ (List.Mem.head _)) (fun A_u141 c_u141 hv hcapc_u141 hmaxc_u141 => ?_)
              subst hv
              refine DW.step (i := 11) (by kernel_rfl) rfl rfl (OpStep.storeAll (us := [.slice A_u131 (pl.length) c_u131, .slice A_u141 (tl.length) c_u141]) Tsize_48 rfl rfl rfl (.there _ (.there _ (.there _ (.there _ (.here _))))) rfl ?_)
              refine ⟨(Some'.weak (.skip (.skip (.skip (.skip (.skip (.skip (.take (.take (.nil _)))))))))), ?_⟩
              refine DW.take (i := 12) (v := .bool ok) rfl (by kernel_rfl) (by kernel_rfl) (by kernel_rfl) (fun _ _ _ h => h) (Some'.weak (.skip (.skip (.skip (.skip (.skip (.skip (.take (.take (.nil _)))))))))) rfl (OpY.pure rfl) ?_
              refine DW.done (by kernel_rfl) ?_
              refine Run.goal ⟨(by repeat (first | exact Same.refl _ _ | refine Same.put rfl ?_ | refine Same.over rfl rfl ?_)), (b6, .slice A_u131 (pl.length) c_u131, .slice A_u141 (tl.length) c_u141), ?_, ?_, ?_⟩
              · trivial
              · exact ⟨(by first | rfl | (congr 1; omega) | simp [*]), (by first | rfl | (congr 1; omega) | simp [*]), trivial⟩
              · exact ((Weak.selF [4, 0, 0, 3, 3]).trans (Some'.weak (.takeEq (by first | rfl | simp) (.takeEq (by first | rfl | simp) (.takeEq (by first | rfl | simp) (.take (.take (.nil _))))))))
          · refine OpStep.alloc (zs := [.slice none 0 0, .slice none 0 0]) Tzero_48 fun b7 => ?_
            refine ⟨(Some'.weak (.skip (.take (.take (.nil _))))), ?_⟩
            refine DW.step (i := 1) (by kernel_rfl) rfl rfl (OpStep.call (vs := [.agg #[.int .i64 gNodes, gvEdges]]) (caps := []) Tcall_9 rfl rfl (fun w hs => toCouplingGraph_spec (hs.sl ghEdges) (by omega)) ?_)
            rintro _ _ ⟨u15, rfl, rfl⟩
            refine ⟨(Some'.weak (.skip (.skip (.take (.take (.nil _)))))), ?_⟩
            refine DW.step (i := 3) (by kernel_rfl) rfl rfl (OpStep.call (vs := [.agg #[.int .i64 cQubits, cvGates]]) (caps := []) Tcall_10 rfl rfl (fun w hs => toCircuit_spec (hs.sl chGates) (by omega)) ?_)
            rintro _ _ ⟨u16, rfl, rfl⟩
            refine ⟨(Some'.weak (.skip (.skip (.skip (.take (.take (.nil _))))))), ?_⟩
            refine DW.step (i := 5) (by kernel_rfl) rfl rfl (OpStep.call (vs := [.slice pA pn pc]) (caps := []) Tcall_11 rfl rfl (fun w hs => toIntS_spec (hs.sl ph) (by omega)) ?_)
            rintro u17 _ rfl
            refine ⟨(Some'.weak (.skip (.skip (.skip (.skip (.take (.take (.nil _)))))))), ?_⟩
            refine DW.step (i := 6) (by kernel_rfl) rfl rfl (OpStep.call (vs := [.agg #[.int .i64 gNodes, u15], .agg #[.int .i64 cQubits, u16], u17]) (caps := []) Tcall_16 rfl rfl (fun w hs => (by have h := sRouteFrom_spec (M := M) (Q := cQubits) hM gwNodes gwEdges (hs.slOwn (.tail _ (.tail _ (List.Mem.head _)))) (hs.slOwn (.tail _ (List.Mem.head _))) (hs.slOwn (.head _)); rw [hpl, htl, hok] at h; exact h)) ?_)
            rintro _ _ ⟨u18, u19, rfl, rfl⟩
            refine ⟨(Some'.weak (.skip (.skip (.skip (.skip (.skip (.skip (.take (.take (.nil _)))))))))), ?_⟩
            refine DW.take (i := 7) (v := .tuple #[.agg #[u18, u19], .bool ok]) rfl (by kernel_rfl) (by kernel_rfl) (by kernel_rfl) (fun _ _ _ h => h) (Some'.weak (.skip (.skip (.skip (.skip (.skip (.skip (.take (.take (.nil _)))))))))) rfl (OpY.pure rfl) ?_
            refine DW.take (i := 8) (v := .agg #[u18, u19]) rfl (by kernel_rfl) (by kernel_rfl) (by kernel_rfl) (fun _ _ _ h => h) (Some'.weak (.skip (.skip (.skip (.skip (.skip (.skip (.take (.take (.nil _)))))))))) rfl (OpY.pure rfl) ?_
            refine DW.take (i := 9) (v := .bool ok) rfl (by kernel_rfl) (by kernel_rfl) (by kernel_rfl) (fun _ _ _ h => h) (Some'.weak (.skip (.skip (.skip (.skip (.skip (.skip (.take (.take (.nil _)))))))))) rfl (OpY.pure rfl) ?_
            refine DW.formOwn (.head _) (fun A_u181 c_u181 hv hcapc_u181 hmaxc_u181 => ?_)
            subst hv
            refine DW.formOwn (.tail _ (List.Mem.head _)) (fun A_u191 c_u191 hv hcapc_u191 hmaxc_u191 => ?_)
            subst hv
            refine DW.step (i := 11) (by kernel_rfl) rfl rfl (OpStep.storeAll (us := [.slice A_u181 (pl.length) c_u181, .slice A_u191 (tl.length) c_u191]) Tsize_48 rfl rfl rfl (.there _ (.there _ (.there _ (.there _ (.there _ (.here _)))))) rfl ?_)
            refine ⟨(Some'.weak (.skip (.skip (.skip (.skip (.skip (.skip (.take (.take (.nil _)))))))))), ?_⟩
            refine DW.take (i := 12) (v := .bool ok) rfl (by kernel_rfl) (by kernel_rfl) (by kernel_rfl) (fun _ _ _ h => h) (Some'.weak (.skip (.skip (.skip (.skip (.skip (.skip (.take (.take (.nil _)))))))))) rfl (OpY.pure rfl) ?_
            refine DW.done (by kernel_rfl) ?_
            refine Run.goal ⟨(by repeat (first | exact Same.refl _ _ | refine Same.put rfl ?_ | refine Same.over rfl rfl ?_)), (b7, .slice A_u181 (pl.length) c_u181, .slice A_u191 (tl.length) c_u191), ?_, ?_, ?_⟩
            · trivial
            · exact ⟨(by first | rfl | (congr 1; omega) | simp [*]), (by first | rfl | (congr 1; omega) | simp [*]), trivial⟩
            · exact ((Weak.selF [5, 0, 0, 3, 3]).trans (Some'.weak (.takeEq (by first | rfl | simp) (.takeEq (by first | rfl | simp) (.takeEq (by first | rfl | simp) (.take (.take (.nil _))))))))
        · rintro ⟨b, x, y⟩ fr hcut
          show Run _ _ (over _ _ [(8, .pointer (some ⟨b, 0, none⟩)), (9, .bool ok)] fr) [.blk b 48 [x, y], .own x 3 1 (pl.length) (ints pl), .own y 101 3 (tl.length) (ints (fl3 tl)), .blk b2 27 [.int .i64 cQubits, cvGates], .blk b1 24 [.int .i64 gNodes, gvEdges]]
          refine Run.seq ?_
          refine Run.region ?_
          refine Run.q (v := .agg #[.int .i64 gNodes, gvEdges]) rfl (OpQ.y (OpY.loadN (cs := [.int .i64 gNodes, gvEdges]) Tagg_24 rfl (Cells.blk (.tail _ (.tail _ (.tail _ (.tail _ (List.Mem.head _))))) ⟨rfl, rfl, trivial⟩))) ?_
          refine Run.step rfl (OpStep.call (vs := [.agg #[.int .i64 gNodes, gvEdges]]) (caps := []) Tcall_9 rfl rfl (fun w hs => toCouplingGraph_spec (hs.sl ghEdges) (by omega)) ?_)
          rintro _ _ ⟨u20, rfl, rfl⟩
          show Run _ _ (putF _ _ _ (.agg #[.int .i64 gNodes, u20])) [.own u20 77 2 gnEdges (ints gxEdges), .blk b 48 [x, y], .own x 3 1 (pl.length) (ints pl), .own y 101 3 (tl.length) (ints (fl3 tl)), .blk b2 27 [.int .i64 cQubits, cvGates], .blk b1 24 [.int .i64 gNodes, gvEdges]]
          refine Run.step rfl (OpStep.alloc (zs := [.int .i64 0, .slice none 0 0]) Tzero_35 fun b8 => ?_)
          refine Run.formOwn (.tail _ (List.Mem.head _)) (fun A_u201 c_u201 hv hcapc_u201 hmaxc_u201 => ?_) (fun _ _ _ => ⟨nofun, nofun, nofun⟩)
          subst hv
          refine Run.step rfl (OpStep.storeAll (us := [.int .i64 gNodes, .slice A_u201 gnEdges c_u201]) Tsize_35 rfl rfl rfl (.here _) rfl ?_)
          refine Run.done ?_
          refine Run.seq ?_
          refine Run.region ?_
          refine Run.q (v := .agg #[.int .i64 cQubits, cvGates]) rfl (OpQ.y (OpY.loadN (cs := [.int .i64 cQubits, cvGates]) Tagg_27 rfl (Cells.blk (.tail _ (.tail _ (.tail _ (.tail _ (.tail _ (List.Mem.head _)))))) ⟨rfl, rfl, trivial⟩))) ?_
          refine Run.step rfl (OpStep.call (vs := [.agg #[.int .i64 cQubits, cvGates]]) (caps := []) Tcall_10 rfl rfl (fun w hs => toCircuit_spec (hs.sl chGates) (by omega)) ?_)
          rintro _ _ ⟨u21, rfl, rfl⟩
          show Run _ _ (putF _ _ _ (.agg #[.int .i64 cQubits, u21])) [.own u21 81 3 cnGates (ints cxGates), .blk b8 35 [.int .i64 gNodes, .slice A_u201 gnEdges c_u201], .own (.slice A_u201 gnEdges c_u201) 77 2 gnEdges (ints gxEdges), .blk b 48 [x, y], .own x 3 1 (pl.length) (ints pl), .own y 101 3 (tl.length) (ints (fl3 tl)), .blk b2 27 [.int .i64 cQubits, cvGates], .blk b1 24 [.int .i64 gNodes, gvEdges]]
          refine Run.step rfl (OpStep.alloc (zs := [.int .i64 0, .slice none 0 0]) Tzero_39 fun b9 => ?_)
          refine Run.formOwn (.tail _ (List.Mem.head _)) (fun A_u211 c_u211 hv hcapc_u211 hmaxc_u211 => ?_) (fun _ _ _ => ⟨nofun, nofun, nofun⟩)
          subst hv
          refine Run.step rfl (OpStep.storeAll (us := [.int .i64 cQubits, .slice A_u211 cnGates c_u211]) Tsize_39 rfl rfl rfl (.here _) rfl ?_)
          refine Run.done ?_
          refine Run.seq ?_
          refine Run.region ?_
          refine Run.q (v := .slice pA pn pc) rfl (OpQ.y (OpY.pure rfl)) ?_
          refine Run.step rfl (OpStep.call (vs := [.slice pA pn pc]) (caps := []) Tcall_11 rfl rfl (fun w hs => toIntS_spec (hs.sl ph) (by omega)) ?_)
          rintro u22 _ rfl
          show Run _ _ (putF _ _ _ u22) [.own u22 3 1 pn (ints px), .blk b9 39 [.int .i64 cQubits, .slice A_u211 cnGates c_u211], .own (.slice A_u211 cnGates c_u211) 81 3 cnGates (ints cxGates), .blk b8 35 [.int .i64 gNodes, .slice A_u201 gnEdges c_u201], .own (.slice A_u201 gnEdges c_u201) 77 2 gnEdges (ints gxEdges), .blk b 48 [x, y], .own x 3 1 (pl.length) (ints pl), .own y 101 3 (tl.length) (ints (fl3 tl)), .blk b2 27 [.int .i64 cQubits, cvGates], .blk b1 24 [.int .i64 gNodes, gvEdges]]
          refine Run.q (v := u22) rfl (OpQ.y (OpY.pure rfl)) ?_
          refine Run.done ?_
          refine Run.seq ?_
          refine Run.region ?_
          refine Run.q (v := .agg #[.int .i64 gNodes, .slice A_u201 gnEdges c_u201]) rfl (OpQ.y (OpY.loadN (cs := [.int .i64 gNodes, .slice A_u201 gnEdges c_u201]) Tagg_35 rfl (Cells.blk (.tail _ (.tail _ (.tail _ (List.Mem.head _)))) ⟨rfl, rfl, trivial⟩))) ?_
          refine Run.q (v := .agg #[.int .i64 cQubits, .slice A_u211 cnGates c_u211]) rfl (OpQ.y (OpY.loadN (cs := [.int .i64 cQubits, .slice A_u211 cnGates c_u211]) Tagg_39 rfl (Cells.blk (.tail _ (List.Mem.head _)) ⟨rfl, rfl, trivial⟩))) ?_
          refine Run.q (v := u22) rfl (OpQ.y (OpY.pure rfl)) ?_
          refine Run.step rfl (OpStep.call (vs := [.agg #[.int .i64 gNodes, .slice A_u201 gnEdges c_u201], .agg #[.int .i64 cQubits, .slice A_u211 cnGates c_u211], u22]) (caps := []) Tcall_17 rfl rfl (fun w hs => (by have h := RouteFrom_spec (M := M) (N := gNodes) (Q := cQubits) hM (hs.slOwn (.tail _ (.tail _ (.tail _ (.tail _ (List.Mem.head _)))))) (hs.slOwn (.tail _ (.tail _ (List.Mem.head _)))) (hs.slOwn (.head _)); rw [hpl, htl, hok] at h; exact h)) ?_)
          rintro _ _ ⟨u23, u24, rfl, rfl⟩
          show Run _ _ (putF _ _ _ (.tuple #[.agg #[u23, u24], .bool ok])) [.own u23 3 1 (pl.length) (ints pl), .own u24 101 3 (tl.length) (ints (fl3 tl)), .own u22 3 1 pn (ints px), .blk b9 39 [.int .i64 cQubits, .slice A_u211 cnGates c_u211], .own (.slice A_u211 cnGates c_u211) 81 3 cnGates (ints cxGates), .blk b8 35 [.int .i64 gNodes, .slice A_u201 gnEdges c_u201], .own (.slice A_u201 gnEdges c_u201) 77 2 gnEdges (ints gxEdges), .blk b 48 [x, y], .own x 3 1 (pl.length) (ints pl), .own y 101 3 (tl.length) (ints (fl3 tl)), .blk b2 27 [.int .i64 cQubits, cvGates], .blk b1 24 [.int .i64 gNodes, gvEdges]]
          refine Run.q (v := .tuple #[.agg #[u23, u24], .bool ok]) rfl (OpQ.y (OpY.pure rfl)) ?_
          refine Run.q (v := .agg #[u23, u24]) rfl (OpQ.y (OpY.pure rfl)) ?_
          refine Run.q (v := .bool ok) rfl (OpQ.y (OpY.pure rfl)) ?_
          refine Run.step rfl (OpStep.alloc (zs := [.slice none 0 0, .slice none 0 0]) Tzero_48 fun b10 => ?_)
          refine Run.formOwn (.tail _ (List.Mem.head _)) (fun A_u231 c_u231 hv hcapc_u231 hmaxc_u231 => ?_) (fun _ _ _ => ⟨nofun, nofun, nofun⟩)
          subst hv
          refine Run.formOwn (.tail _ (.tail _ (List.Mem.head _))) (fun A_u241 c_u241 hv hcapc_u241 hmaxc_u241 => ?_) (fun _ _ _ => ⟨nofun, nofun, nofun⟩)
          subst hv
          refine Run.step rfl (OpStep.storeAll (us := [.slice A_u231 (pl.length) c_u231, .slice A_u241 (tl.length) c_u241]) Tsize_48 rfl rfl rfl (.here _) rfl ?_)
          refine Run.q (v := .bool ok) rfl (OpQ.y (OpY.pure rfl)) ?_
          refine Run.done ?_
          refine Run.seq ?_
          refine Run.seq ?_
          refine Run.region ?_
          refine Run.q (v := .agg #[.slice A_u231 (pl.length) c_u231, .slice A_u241 (tl.length) c_u241]) rfl (OpQ.y (OpY.loadN (cs := [.slice A_u231 (pl.length) c_u231, .slice A_u241 (tl.length) c_u241]) Tagg_48 rfl (Cells.blk (.head _) ⟨rfl, rfl, trivial⟩))) ?_
          refine Run.q (v := .agg #[x, y]) rfl (OpQ.y (OpY.loadN (cs := [x, y]) Tagg_48 rfl (Cells.blk (.tail _ (.tail _ (.tail _ (.tail _ (.tail _ (.tail _ (.tail _ (.tail _ (List.Mem.head _))))))))) ⟨rfl, rfl, trivial⟩))) ?_
          refine Run.q (v := .bool true) rfl (OpQ.call (vs := [.agg #[.slice A_u231 (pl.length) c_u231, .slice A_u241 (tl.length) c_u241], .agg #[x, y]]) (caps := []) Tcall_18 rfl rfl (fun w hs => eqRoute_true (hs.slOwn (.tail _ (List.Mem.head _))) (hs.slOwn (.tail _ (.tail _ (List.Mem.head _)))) (hs.slOwn (.tail _ (.tail _ (.tail _ (.tail _ (.tail _ (.tail _ (.tail _ (.tail _ (.tail _ (List.Mem.head _))))))))))) (hs.slOwn (.tail _ (.tail _ (.tail _ (.tail _ (.tail _ (.tail _ (.tail _ (.tail _ (.tail _ (.tail _ (List.Mem.head _)))))))))))))) ?_
          refine Run.q (v := .bool false) rfl (OpQ.y (OpY.pure rfl)) ?_
          refine Run.q (v := .bool false) rfl (OpQ.y (OpY.pure rfl)) ?_
          refine Run.q (v := .bool ok) rfl (OpQ.y (OpY.pure rfl)) ?_
          refine Run.q (v := .bool ok) rfl (OpQ.y (OpY.pure rfl)) ?_
          refine Run.q (v := .bool false) rfl (OpQ.y (OpY.neqBSame Tbool_4 rfl rfl rfl)) ?_
          refine Run.q (v := .bool false) rfl (OpQ.y (OpY.pure rfl)) ?_
          refine Run.done ?_
          refine Run.cond (b := false) rfl (fun h => nomatch h) (fun _ => ?_)
          refine Run.skip ?_
          refine Run.seq ?_
          refine Run.seq ?_
          refine Run.held (by kernel_rfl) ?_
          refine DW.take (i := 0) (v := .agg #[.int .i64 gNodes, .slice A_u201 gnEdges c_u201]) rfl (by kernel_rfl) (by kernel_rfl) (by kernel_rfl) (fun _ _ _ h => h) (Weak.refl _) rfl (OpY.loadN (cs := [.int .i64 gNodes, .slice A_u201 gnEdges c_u201]) Tagg_35 rfl (Cells.blk (.tail _ (.tail _ (.tail _ (.tail _ (.tail _ (.tail _ (List.Mem.head _))))))) ⟨rfl, rfl, trivial⟩)) ?_
          refine DW.take (i := 1) (v := .agg #[.int .i64 gNodes, gvEdges]) rfl (by kernel_rfl) (by kernel_rfl) (by kernel_rfl) (fun _ _ _ h => h) (Weak.refl _) rfl (OpY.loadN (cs := [.int .i64 gNodes, gvEdges]) Tagg_24 rfl (Cells.blk (.tail _ (.tail _ (.tail _ (.tail _ (.tail _ (.tail _ (.tail _ (.tail _ (.tail _ (.tail _ (.tail _ (.tail _ (List.Mem.head _))))))))))))) ⟨rfl, rfl, trivial⟩)) ?_
          refine DW.step (i := 2) (by kernel_rfl) rfl rfl (OpStep.call (vs := [.agg #[.int .i64 gNodes, gvEdges]]) (caps := []) Tcall_9 rfl rfl (fun w hs => toCouplingGraph_spec (hs.sl ghEdges) (by omega)) ?_)
          rintro _ _ ⟨u25, rfl, rfl⟩
          refine ⟨(Some'.weak (.skip (.take (.take (.take (.take (.take (.take (.take (.take (.take (.take (.take (.take (.take (.nil _)))))))))))))))), ?_⟩
          refine DW.step (i := 3) (by kernel_rfl) rfl rfl (OpStep.q (v := .bool true) (OpQ.call (vs := [.agg #[.int .i64 gNodes, .slice A_u201 gnEdges c_u201], .agg #[.int .i64 gNodes, u25]]) (caps := []) Tcall_13 rfl rfl (fun w hs => eqCouplingGraph_true (hs.slOwn (.tail _ (.tail _ (.tail _ (.tail _ (.tail _ (.tail _ (.tail _ (.tail _ (List.Mem.head _)))))))))) (hs.slOwn (.head _)))) ?_)
          refine ⟨(Some'.weak (.skip (.take (.take (.take (.take (.take (.take (.take (.take (.take (.take (.take (.take (.take (.nil _)))))))))))))))), ?_⟩
          refine DW.take (i := 4) (v := .bool false) rfl (by kernel_rfl) (by kernel_rfl) (by kernel_rfl) (fun _ _ _ h => h) (Some'.weak (.skip (.take (.take (.take (.take (.take (.take (.take (.take (.take (.take (.take (.take (.take (.nil _)))))))))))))))) rfl (OpY.pure rfl) ?_
          refine DW.done (by kernel_rfl) ?_
          refine Run.cond (b := false) rfl (fun h => nomatch h) (fun _ => ?_)
          refine Run.skip ?_
          refine Run.seq ?_
          refine Run.seq ?_
          refine Run.held (by kernel_rfl) ?_
          refine DW.take (i := 0) (v := .agg #[.int .i64 cQubits, .slice A_u211 cnGates c_u211]) rfl (by kernel_rfl) (by kernel_rfl) (by kernel_rfl) (fun _ _ _ h => h) (Weak.refl _) rfl (OpY.loadN (cs := [.int .i64 cQubits, .slice A_u211 cnGates c_u211]) Tagg_39 rfl (Cells.blk (.tail _ (.tail _ (.tail _ (.tail _ (.tail _ (List.Mem.head _)))))) ⟨rfl, rfl, trivial⟩)) ?_
          refine DW.take (i := 1) (v := .agg #[.int .i64 cQubits, cvGates]) rfl (by kernel_rfl) (by kernel_rfl) (by kernel_rfl) (fun _ _ _ h => h) (Weak.refl _) rfl (OpY.loadN (cs := [.int .i64 cQubits, cvGates]) Tagg_27 rfl (Cells.blk (.tail _ (.tail _ (.tail _ (.tail _ (.tail _ (.tail _ (.tail _ (.tail _ (.tail _ (.tail _ (.tail _ (.tail _ (List.Mem.head _))))))))))))) ⟨rfl, rfl, trivial⟩)) ?_
          refine DW.step (i := 2) (by kernel_rfl) rfl rfl (OpStep.call (vs := [.agg #[.int .i64 cQubits, cvGates]]) (caps := []) Tcall_10 rfl rfl (fun w hs => toCircuit_spec (hs.sl chGates) (by omega)) ?_)
          rintro _ _ ⟨u26, rfl, rfl⟩
          refine ⟨(Some'.weak (.skip (.take (.take (.take (.take (.take (.take (.take (.take (.take (.take (.take (.take (.take (.take (.nil _))))))))))))))))), ?_⟩
          refine DW.step (i := 3) (by kernel_rfl) rfl rfl (OpStep.q (v := .bool true) (OpQ.call (vs := [.agg #[.int .i64 cQubits, .slice A_u211 cnGates c_u211], .agg #[.int .i64 cQubits, u26]]) (caps := []) Tcall_14 rfl rfl (fun w hs => eqCircuit_true (hs.slOwn (.tail _ (.tail _ (.tail _ (.tail _ (.tail _ (.tail _ (.tail _ (List.Mem.head _))))))))) (hs.slOwn (.head _)))) ?_)
          refine ⟨(Some'.weak (.skip (.take (.take (.take (.take (.take (.take (.take (.take (.take (.take (.take (.take (.take (.take (.nil _))))))))))))))))), ?_⟩
          refine DW.take (i := 4) (v := .bool false) rfl (by kernel_rfl) (by kernel_rfl) (by kernel_rfl) (fun _ _ _ h => h) (Some'.weak (.skip (.take (.take (.take (.take (.take (.take (.take (.take (.take (.take (.take (.take (.take (.take (.nil _))))))))))))))))) rfl (OpY.pure rfl) ?_
          refine DW.done (by kernel_rfl) ?_
          refine Run.cond (b := false) rfl (fun h => nomatch h) (fun _ => ?_)
          refine Run.skip ?_
          refine Run.seq ?_
          refine Run.seq ?_
          refine Run.region ?_
          refine Run.q (v := u22) rfl (OpQ.y (OpY.pure rfl)) ?_
          refine Run.q (v := .slice pA pn pc) rfl (OpQ.y (OpY.pure rfl)) ?_
          refine Run.step rfl (OpStep.call (vs := [.slice pA pn pc]) (caps := []) Tcall_11 rfl rfl (fun w hs => toIntS_spec (hs.sl ph) (by omega)) ?_)
          rintro u27 _ rfl
          show Run _ _ (putF _ _ _ u27) [.own u27 3 1 pn (ints px), .own u26 81 3 cnGates (ints cxGates), .own u25 77 2 gnEdges (ints gxEdges), .blk b10 48 [.slice A_u231 (pl.length) c_u231, .slice A_u241 (tl.length) c_u241], .own (.slice A_u231 (pl.length) c_u231) 3 1 (pl.length) (ints pl), .own (.slice A_u241 (tl.length) c_u241) 101 3 (tl.length) (ints (fl3 tl)), .own u22 3 1 pn (ints px), .blk b9 39 [.int .i64 cQubits, .slice A_u211 cnGates c_u211], .own (.slice A_u211 cnGates c_u211) 81 3 cnGates (ints cxGates), .blk b8 35 [.int .i64 gNodes, .slice A_u201 gnEdges c_u201], .own (.slice A_u201 gnEdges c_u201) 77 2 gnEdges (ints gxEdges), .blk b 48 [x, y], .own x 3 1 (pl.length) (ints pl), .own y 101 3 (tl.length) (ints (fl3 tl)), .blk b2 27 [.int .i64 cQubits, cvGates], .blk b1 24 [.int .i64 gNodes, gvEdges]]
          refine Run.q (v := .bool true) rfl (OpQ.call (vs := [u22, u27]) (caps := []) Tcall_15 rfl rfl (fun w hs => eqIntS_true (hs.slOwn (.tail _ (.tail _ (.tail _ (.tail _ (.tail _ (.tail _ (List.Mem.head _)))))))) (hs.slOwn (.head _)) rfl)) ?_
          refine Run.q (v := .bool false) rfl (OpQ.y (OpY.pure rfl)) ?_
          refine Run.done ?_
          refine Run.cond (b := false) rfl (fun h => nomatch h) (fun _ => ?_)
          refine Run.skip ?_
          refine Run.seq ?_
          refine Run.region ?_
          refine Run.q (v := .int .i64 1) rfl (OpQ.y (OpY.pure rfl)) ?_
          refine Run.done ?_
          refine Run.seq ?_
          refine Run.region ?_
          refine Run.q (v := .agg #[.int .i64 gNodes, .slice A_u201 gnEdges c_u201]) rfl (OpQ.y (OpY.loadN (cs := [.int .i64 gNodes, .slice A_u201 gnEdges c_u201]) Tagg_35 rfl (Cells.blk (.tail _ (.tail _ (.tail _ (.tail _ (.tail _ (.tail _ (.tail _ (.tail _ (.tail _ (List.Mem.head _)))))))))) ⟨rfl, rfl, trivial⟩))) ?_
          refine Run.q (v := .int .i64 1) rfl (OpQ.y (OpY.pure rfl)) ?_
          refine Run.step rfl (OpStep.callM (H1 := [.own (.slice A_u201 gnEdges c_u201) 77 2 gnEdges (ints gxEdges)]) (H2 := [.own u27 3 1 pn (ints px), .own u26 81 3 cnGates (ints cxGates), .own u25 77 2 gnEdges (ints gxEdges), .blk b10 48 [.slice A_u231 (pl.length) c_u231, .slice A_u241 (tl.length) c_u241], .own (.slice A_u231 (pl.length) c_u231) 3 1 (pl.length) (ints pl), .own (.slice A_u241 (tl.length) c_u241) 101 3 (tl.length) (ints (fl3 tl)), .own u22 3 1 pn (ints px), .blk b9 39 [.int .i64 cQubits, .slice A_u211 cnGates c_u211], .own (.slice A_u211 cnGates c_u211) 81 3 cnGates (ints cxGates), .blk b8 35 [.int .i64 gNodes, .slice A_u201 gnEdges c_u201], .blk b 48 [x, y], .own x 3 1 (pl.length) (ints pl), .own y 101 3 (tl.length) (ints (fl3 tl)), .blk b2 27 [.int .i64 cQubits, cvGates], .blk b1 24 [.int .i64 gNodes, gvEdges]]) (vs := [.agg #[.int .i64 gNodes, .slice A_u201 gnEdges c_u201], .int .i64 1]) (caps := []) Tcall_19 rfl rfl (Weak.selF [10]) (fun w hs => markCouplingGraph_spec (hs.sub (List.sublist_append_left _ _)).self (by omega) (by omega)) ?_)
          rintro _ _ ⟨rfl, rfl⟩
          show Run _ _ (putF _ _ _ (.int .i64 (1 + ((gnEdges : Nat) : Int) * 2))) [.own (.slice A_u201 gnEdges c_u201) 77 2 gnEdges (ints (mks 1 (gnEdges * 2))), .own u27 3 1 pn (ints px), .own u26 81 3 cnGates (ints cxGates), .own u25 77 2 gnEdges (ints gxEdges), .blk b10 48 [.slice A_u231 (pl.length) c_u231, .slice A_u241 (tl.length) c_u241], .own (.slice A_u231 (pl.length) c_u231) 3 1 (pl.length) (ints pl), .own (.slice A_u241 (tl.length) c_u241) 101 3 (tl.length) (ints (fl3 tl)), .own u22 3 1 pn (ints px), .blk b9 39 [.int .i64 cQubits, .slice A_u211 cnGates c_u211], .own (.slice A_u211 cnGates c_u211) 81 3 cnGates (ints cxGates), .blk b8 35 [.int .i64 gNodes, .slice A_u201 gnEdges c_u201], .blk b 48 [x, y], .own x 3 1 (pl.length) (ints pl), .own y 101 3 (tl.length) (ints (fl3 tl)), .blk b2 27 [.int .i64 cQubits, cvGates], .blk b1 24 [.int .i64 gNodes, gvEdges]]
          refine Run.q (v := .int .i64 (1 + ((gnEdges : Nat) : Int) * 2)) rfl (OpQ.y (OpY.pure rfl)) ?_
          refine Run.done ?_
          refine Run.seq ?_
          refine Run.region ?_
          refine Run.q (v := .agg #[.int .i64 cQubits, .slice A_u211 cnGates c_u211]) rfl (OpQ.y (OpY.loadN (cs := [.int .i64 cQubits, .slice A_u211 cnGates c_u211]) Tagg_39 rfl (Cells.blk (.tail _ (.tail _ (.tail _ (.tail _ (.tail _ (.tail _ (.tail _ (.tail _ (List.Mem.head _))))))))) ⟨rfl, rfl, trivial⟩))) ?_
          refine Run.q (v := .int .i64 (1 + ((gnEdges : Nat) : Int) * 2)) rfl (OpQ.y (OpY.pure rfl)) ?_
          refine Run.step rfl (OpStep.callM (H1 := [.own (.slice A_u211 cnGates c_u211) 81 3 cnGates (ints cxGates)]) (H2 := [.own (.slice A_u201 gnEdges c_u201) 77 2 gnEdges (ints (mks 1 (gnEdges * 2))), .own u27 3 1 pn (ints px), .own u26 81 3 cnGates (ints cxGates), .own u25 77 2 gnEdges (ints gxEdges), .blk b10 48 [.slice A_u231 (pl.length) c_u231, .slice A_u241 (tl.length) c_u241], .own (.slice A_u231 (pl.length) c_u231) 3 1 (pl.length) (ints pl), .own (.slice A_u241 (tl.length) c_u241) 101 3 (tl.length) (ints (fl3 tl)), .own u22 3 1 pn (ints px), .blk b9 39 [.int .i64 cQubits, .slice A_u211 cnGates c_u211], .blk b8 35 [.int .i64 gNodes, .slice A_u201 gnEdges c_u201], .blk b 48 [x, y], .own x 3 1 (pl.length) (ints pl), .own y 101 3 (tl.length) (ints (fl3 tl)), .blk b2 27 [.int .i64 cQubits, cvGates], .blk b1 24 [.int .i64 gNodes, gvEdges]]) (vs := [.agg #[.int .i64 cQubits, .slice A_u211 cnGates c_u211], .int .i64 (1 + ((gnEdges : Nat) : Int) * 2)]) (caps := []) Tcall_20 rfl rfl (Weak.selF [9]) (fun w hs => markCircuit_spec (hs.sub (List.sublist_append_left _ _)).self (by omega) (by omega)) ?_)
          rintro _ _ ⟨rfl, rfl⟩
          show Run _ _ (putF _ _ _ (.int .i64 (1 + ((gnEdges : Nat) : Int) * 2 + ((cnGates : Nat) : Int) * 3))) [.own (.slice A_u211 cnGates c_u211) 81 3 cnGates (ints (mks (1 + ((gnEdges : Nat) : Int) * 2) (cnGates * 3))), .own (.slice A_u201 gnEdges c_u201) 77 2 gnEdges (ints (mks 1 (gnEdges * 2))), .own u27 3 1 pn (ints px), .own u26 81 3 cnGates (ints cxGates), .own u25 77 2 gnEdges (ints gxEdges), .blk b10 48 [.slice A_u231 (pl.length) c_u231, .slice A_u241 (tl.length) c_u241], .own (.slice A_u231 (pl.length) c_u231) 3 1 (pl.length) (ints pl), .own (.slice A_u241 (tl.length) c_u241) 101 3 (tl.length) (ints (fl3 tl)), .own u22 3 1 pn (ints px), .blk b9 39 [.int .i64 cQubits, .slice A_u211 cnGates c_u211], .blk b8 35 [.int .i64 gNodes, .slice A_u201 gnEdges c_u201], .blk b 48 [x, y], .own x 3 1 (pl.length) (ints pl), .own y 101 3 (tl.length) (ints (fl3 tl)), .blk b2 27 [.int .i64 cQubits, cvGates], .blk b1 24 [.int .i64 gNodes, gvEdges]]
          refine Run.q (v := .int .i64 (1 + ((gnEdges : Nat) : Int) * 2 + ((cnGates : Nat) : Int) * 3)) rfl (OpQ.y (OpY.pure rfl)) ?_
          refine Run.done ?_
          refine Run.seq ?_
          refine Run.region ?_
          refine Run.q (v := u22) rfl (OpQ.y (OpY.pure rfl)) ?_
          refine Run.q (v := .int .i64 (1 + ((gnEdges : Nat) : Int) * 2 + ((cnGates : Nat) : Int) * 3)) rfl (OpQ.y (OpY.pure rfl)) ?_
          refine Run.step rfl (OpStep.callM (H1 := [.own u22 3 1 pn (ints px)]) (H2 := [.own (.slice A_u211 cnGates c_u211) 81 3 cnGates (ints (mks (1 + ((gnEdges : Nat) : Int) * 2) (cnGates * 3))), .own (.slice A_u201 gnEdges c_u201) 77 2 gnEdges (ints (mks 1 (gnEdges * 2))), .own u27 3 1 pn (ints px), .own u26 81 3 cnGates (ints cxGates), .own u25 77 2 gnEdges (ints gxEdges), .blk b10 48 [.slice A_u231 (pl.length) c_u231, .slice A_u241 (tl.length) c_u241], .own (.slice A_u231 (pl.length) c_u231) 3 1 (pl.length) (ints pl), .own (.slice A_u241 (tl.length) c_u241) 101 3 (tl.length) (ints (fl3 tl)), .blk b9 39 [.int .i64 cQubits, .slice A_u211 cnGates c_u211], .blk b8 35 [.int .i64 gNodes, .slice A_u201 gnEdges c_u201], .blk b 48 [x, y], .own x 3 1 (pl.length) (ints pl), .own y 101 3 (tl.length) (ints (fl3 tl)), .blk b2 27 [.int .i64 cQubits, cvGates], .blk b1 24 [.int .i64 gNodes, gvEdges]]) (vs := [u22, .int .i64 (1 + ((gnEdges : Nat) : Int) * 2 + ((cnGates : Nat) : Int) * 3)]) (caps := []) Tcall_21 rfl rfl (Weak.selF [8]) (fun w hs => markIntS_spec (hs.holds _ (.head _)) (by omega) (by omega)) ?_)
          rintro _ _ ⟨rfl, rfl⟩
          show Run _ _ (putF _ _ _ (.int .i64 (1 + ((gnEdges : Nat) : Int) * 2 + ((cnGates : Nat) : Int) * 3 + ((pn : Nat) : Int) * 1))) [.own u22 3 1 pn (ints (mks (1 + ((gnEdges : Nat) : Int) * 2 + ((cnGates : Nat) : Int) * 3) (pn * 1))), .own (.slice A_u211 cnGates c_u211) 81 3 cnGates (ints (mks (1 + ((gnEdges : Nat) : Int) * 2) (cnGates * 3))), .own (.slice A_u201 gnEdges c_u201) 77 2 gnEdges (ints (mks 1 (gnEdges * 2))), .own u27 3 1 pn (ints px), .own u26 81 3 cnGates (ints cxGates), .own u25 77 2 gnEdges (ints gxEdges), .blk b10 48 [.slice A_u231 (pl.length) c_u231, .slice A_u241 (tl.length) c_u241], .own (.slice A_u231 (pl.length) c_u231) 3 1 (pl.length) (ints pl), .own (.slice A_u241 (tl.length) c_u241) 101 3 (tl.length) (ints (fl3 tl)), .blk b9 39 [.int .i64 cQubits, .slice A_u211 cnGates c_u211], .blk b8 35 [.int .i64 gNodes, .slice A_u201 gnEdges c_u201], .blk b 48 [x, y], .own x 3 1 (pl.length) (ints pl), .own y 101 3 (tl.length) (ints (fl3 tl)), .blk b2 27 [.int .i64 cQubits, cvGates], .blk b1 24 [.int .i64 gNodes, gvEdges]]
          refine Run.q (v := .int .i64 (1 + ((gnEdges : Nat) : Int) * 2 + ((cnGates : Nat) : Int) * 3 + ((pn : Nat) : Int) * 1)) rfl (OpQ.y (OpY.pure rfl)) ?_
          refine Run.done ?_
          refine Run.seq ?_
          refine Run.seq ?_
          refine Run.region ?_
          refine Run.q (v := .int .i64 (1 + ((gnEdges : Nat) : Int) * 2 + ((cnGates : Nat) : Int) * 3 + ((pn : Nat) : Int) * 1)) rfl (OpQ.y (OpY.pure rfl)) ?_
          refine Run.q (v := .bool (decide ((1 + ((gnEdges : Nat) : Int) * 2 + ((cnGates : Nat) : Int) * 3 + ((pn : Nat) : Int) * 1) < 0))) rfl (OpQ.y (OpY.pure rfl)) ?_
          rcases Bool.eq_false_or_eq_true (decide ((1 + ((gnEdges : Nat) : Int) * 2 + ((cnGates : Nat) : Int) * 3 + ((pn : Nat) : Int) * 1) < 0)) with h91 | h91
          · exact absurd h91 (by simp <;> omega) --DONE
          · refine Run.q (v := .bool false) rfl (OpQ.y (OpY.moveB rfl h91)) ?_
            have p91 := h91; try simp only [bs] at p91
            refine Run.q (v := .agg #[.slice A_u231 (pl.length) c_u231, .slice A_u241 (tl.length) c_u241]) rfl (OpQ.y (OpY.loadN (cs := [.slice A_u231 (pl.length) c_u231, .slice A_u241 (tl.length) c_u241]) Tagg_48 rfl (Cells.blk (.tail _ (.tail _ (.tail _ (.tail _ (.tail _ (.tail _ (List.Mem.head _))))))) ⟨rfl, rfl, trivial⟩))) ?_
            refine Run.q (v := .agg #[x, y]) rfl (OpQ.y (OpY.loadN (cs := [x, y]) Tagg_48 rfl (Cells.blk (.tail _ (.tail _ (.tail _ (.tail _ (.tail _ (.tail _ (.tail _ (.tail _ (.tail _ (.tail _ (.tail _ (List.Mem.head _)))))))))))) ⟨rfl, rfl, trivial⟩))) ?_
            refine Run.q (v := .bool true) rfl (OpQ.call (vs := [.agg #[.slice A_u231 (pl.length) c_u231, .slice A_u241 (tl.length) c_u241], .agg #[x, y]]) (caps := []) Tcall_18 rfl rfl (fun w hs => eqRoute_true (hs.slOwn (.tail _ (.tail _ (.tail _ (.tail _ (.tail _ (.tail _ (.tail _ (List.Mem.head _))))))))) (hs.slOwn (.tail _ (.tail _ (.tail _ (.tail _ (.tail _ (.tail _ (.tail _ (.tail _ (List.Mem.head _)))))))))) (hs.slOwn (.tail _ (.tail _ (.tail _ (.tail _ (.tail _ (.tail _ (.tail _ (.tail _ (.tail _ (.tail _ (.tail _ (.tail _ (List.Mem.head _)))))))))))))) (hs.slOwn (.tail _ (.tail _ (.tail _ (.tail _ (.tail _ (.tail _ (.tail _ (.tail _ (.tail _ (.tail _ (.tail _ (.tail _ (.tail _ (List.Mem.head _))))))))))))))))) ?_
            refine Run.q (v := .bool false) rfl (OpQ.y (OpY.pure rfl)) ?_
            refine Run.q (v := .bool false) rfl (OpQ.y (OpY.pure rfl)) ?_
            refine Run.q (v := .bool false) rfl (OpQ.y (OpY.pure rfl)) ?_
            refine Run.q (v := .bool ok) rfl (OpQ.y (OpY.pure rfl)) ?_
            refine Run.q (v := .bool ok) rfl (OpQ.y (OpY.pure rfl)) ?_
            refine Run.q (v := .bool false) rfl (OpQ.y (OpY.neqBSame Tbool_4 rfl rfl rfl)) ?_
            refine Run.q (v := .bool false) rfl (OpQ.y (OpY.pure rfl)) ?_
            refine Run.done ?_
            refine Run.cond (b := false) rfl (fun h => nomatch h) (fun _ => ?_)
            refine Run.skip ?_
            refine Run.seq ?_
            refine Run.region ?_
            refine Run.q (v := .int .i64 1) rfl (OpQ.y (OpY.pure rfl)) ?_
            refine Run.done ?_
            refine Run.seq ?_
            refine Run.region ?_
            refine Run.q (v := .agg #[.slice A_u231 (pl.length) c_u231, .slice A_u241 (tl.length) c_u241]) rfl (OpQ.y (OpY.loadN (cs := [.slice A_u231 (pl.length) c_u231, .slice A_u241 (tl.length) c_u241]) Tagg_48 rfl (Cells.blk (.tail _ (.tail _ (.tail _ (.tail _ (.tail _ (.tail _ (List.Mem.head _))))))) ⟨rfl, rfl, trivial⟩))) ?_
            refine Run.q (v := .int .i64 1) rfl (OpQ.y (OpY.pure rfl)) ?_
            refine Run.step rfl (OpStep.callM (H1 := [.own (.slice A_u231 (pl.length) c_u231) 3 1 (pl.length) (ints pl), .own (.slice A_u241 (tl.length) c_u241) 101 3 (tl.length) (ints (fl3 tl))]) (H2 := [.own u22 3 1 pn (ints (mks (1 + ((gnEdges : Nat) : Int) * 2 + ((cnGates : Nat) : Int) * 3) (pn * 1))), .own (.slice A_u211 cnGates c_u211) 81 3 cnGates (ints (mks (1 + ((gnEdges : Nat) : Int) * 2) (cnGates * 3))), .own (.slice A_u201 gnEdges c_u201) 77 2 gnEdges (ints (mks 1 (gnEdges * 2))), .own u27 3 1 pn (ints px), .own u26 81 3 cnGates (ints cxGates), .own u25 77 2 gnEdges (ints gxEdges), .blk b10 48 [.slice A_u231 (pl.length) c_u231, .slice A_u241 (tl.length) c_u241], .blk b9 39 [.int .i64 cQubits, .slice A_u211 cnGates c_u211], .blk b8 35 [.int .i64 gNodes, .slice A_u201 gnEdges c_u201], .blk b 48 [x, y], .own x 3 1 (pl.length) (ints pl), .own y 101 3 (tl.length) (ints (fl3 tl)), .blk b2 27 [.int .i64 cQubits, cvGates], .blk b1 24 [.int .i64 gNodes, gvEdges]]) (vs := [.agg #[.slice A_u231 (pl.length) c_u231, .slice A_u241 (tl.length) c_u241], .int .i64 1]) (caps := []) Tcall_22 rfl rfl (Weak.selF [7, 7]) (fun w hs => markRoute_spec (hs.sub (List.sublist_append_left _ _)).self (by omega) (by omega)) ?_)
            rintro _ _ ⟨rfl, rfl⟩
            show Run _ _ (putF _ _ _ (.int .i64 (1 + ((pl.length : Nat) : Int) * 1 + ((tl.length : Nat) : Int) * 3))) [.own (.slice A_u241 (tl.length) c_u241) 101 3 (tl.length) (ints (mks (1 + ((pl.length : Nat) : Int) * 1) ((tl.length) * 3))), .own (.slice A_u231 (pl.length) c_u231) 3 1 (pl.length) (ints (mks 1 ((pl.length) * 1))), .own u22 3 1 pn (ints (mks (1 + ((gnEdges : Nat) : Int) * 2 + ((cnGates : Nat) : Int) * 3) (pn * 1))), .own (.slice A_u211 cnGates c_u211) 81 3 cnGates (ints (mks (1 + ((gnEdges : Nat) : Int) * 2) (cnGates * 3))), .own (.slice A_u201 gnEdges c_u201) 77 2 gnEdges (ints (mks 1 (gnEdges * 2))), .own u27 3 1 pn (ints px), .own u26 81 3 cnGates (ints cxGates), .own u25 77 2 gnEdges (ints gxEdges), .blk b10 48 [.slice A_u231 (pl.length) c_u231, .slice A_u241 (tl.length) c_u241], .blk b9 39 [.int .i64 cQubits, .slice A_u211 cnGates c_u211], .blk b8 35 [.int .i64 gNodes, .slice A_u201 gnEdges c_u201], .blk b 48 [x, y], .own x 3 1 (pl.length) (ints pl), .own y 101 3 (tl.length) (ints (fl3 tl)), .blk b2 27 [.int .i64 cQubits, cvGates], .blk b1 24 [.int .i64 gNodes, gvEdges]]
            refine Run.q (v := .int .i64 (1 + ((pl.length : Nat) : Int) * 1 + ((tl.length : Nat) : Int) * 3)) rfl (OpQ.y (OpY.pure rfl)) ?_
            refine Run.done ?_
            refine Run.seq ?_
            refine Run.region ?_
            refine Run.q (v := .int .i64 1) rfl (OpQ.y (OpY.pure rfl)) ?_
            refine Run.done ?_
            refine Run.seq ?_
            refine Run.region ?_
            refine Run.q (v := .agg #[.slice A_u231 (pl.length) c_u231, .slice A_u241 (tl.length) c_u241]) rfl (OpQ.y (OpY.loadN (cs := [.slice A_u231 (pl.length) c_u231, .slice A_u241 (tl.length) c_u241]) Tagg_48 rfl (Cells.blk (.tail _ (.tail _ (.tail _ (.tail _ (.tail _ (.tail _ (.tail _ (.tail _ (List.Mem.head _))))))))) ⟨rfl, rfl, trivial⟩))) ?_
            refine Run.q (v := .int .i64 1) rfl (OpQ.y (OpY.pure rfl)) ?_
            refine Run.q (v := .int .i64 (1 + ((pl.length : Nat) : Int) * 1 + ((tl.length : Nat) : Int) * 3)) rfl (OpQ.call (vs := [.agg #[.slice A_u231 (pl.length) c_u231, .slice A_u241 (tl.length) c_u241], .int .i64 1]) (caps := []) Tcall_23 rfl rfl (fun w hs => heldRoute_true (hs.slOwn (.tail _ (List.Mem.head _))) (hs.slOwn (.head _)) (by omega) (by omega) rfl rfl)) ?_
            refine Run.q (v := .int .i64 (1 + ((pl.length : Nat) : Int) * 1 + ((tl.length : Nat) : Int) * 3)) rfl (OpQ.y (OpY.pure rfl)) ?_
            refine Run.done ?_
            refine Run.seq ?_
            refine Run.seq ?_
            refine Run.region ?_
            refine Run.q (v := .int .i64 (1 + ((pl.length : Nat) : Int) * 1 + ((tl.length : Nat) : Int) * 3)) rfl (OpQ.y (OpY.pure rfl)) ?_
            refine Run.q (v := .bool (decide ((1 + ((pl.length : Nat) : Int) * 1 + ((tl.length : Nat) : Int) * 3) < 0))) rfl (OpQ.y (OpY.pure rfl)) ?_
            refine Run.done ?_
            refine Run.cond (b := decide ((1 + ((pl.length : Nat) : Int) * 1 + ((tl.length : Nat) : Int) * 3) < 0)) rfl (fun h109 => ?_) (fun h109 => ?_)
            · have p109 := h109; try simp only [bs] at p109
              exact absurd h109 (by simp <;> omega) --DONE
            · have p109 := h109; try simp only [bs] at p109
              refine Run.skip ?_
              refine Run.seq ?_
              refine Run.seq ?_
              refine Run.region ?_
              refine Run.q (v := .int .i64 (1 + ((pl.length : Nat) : Int) * 1 + ((tl.length : Nat) : Int) * 3)) rfl (OpQ.y (OpY.pure rfl)) ?_
              refine Run.q (v := .int .i64 (1 + ((pl.length : Nat) : Int) * 1 + ((tl.length : Nat) : Int) * 3)) rfl (OpQ.y (OpY.pure rfl)) ?_
              refine Run.q (v := .bool false) rfl (OpQ.y (OpY.neqSame rfl rfl rfl)) ?_
              refine Run.done ?_
              refine Run.cond (b := false) rfl (fun h => nomatch h) (fun _ => ?_)
              refine Run.skip ?_
              refine Run.seq ?_
              refine Run.held (by kernel_rfl) ?_
              refine DW.take (i := 0) (v := .agg #[.int .i64 gNodes, gvEdges]) rfl (by kernel_rfl) (by kernel_rfl) (by kernel_rfl) (fun _ _ _ h => h) (Weak.refl _) rfl (OpY.loadN (cs := [.int .i64 gNodes, gvEdges]) Tagg_24 rfl (Cells.blk (.tail _ (.tail _ (.tail _ (.tail _ (.tail _ (.tail _ (.tail _ (.tail _ (.tail _ (.tail _ (.tail _ (.tail _ (.tail _ (.tail _ (.tail _ (List.Mem.head _)))))))))))))))) ⟨rfl, rfl, trivial⟩)) ?_
              refine DW.take (i := 2) (v := .agg #[.int .i64 cQubits, cvGates]) rfl (by kernel_rfl) (by kernel_rfl) (by kernel_rfl) (fun _ _ _ h => h) (Weak.refl _) rfl (OpY.loadN (cs := [.int .i64 cQubits, cvGates]) Tagg_27 rfl (Cells.blk (.tail _ (.tail _ (.tail _ (.tail _ (.tail _ (.tail _ (.tail _ (.tail _ (.tail _ (.tail _ (.tail _ (.tail _ (.tail _ (.tail _ (List.Mem.head _))))))))))))))) ⟨rfl, rfl, trivial⟩)) ?_
              refine DW.take (i := 4) (v := .slice pA pn pc) rfl (by kernel_rfl) (by kernel_rfl) (by kernel_rfl) (fun _ _ _ h => h) (Weak.refl _) rfl (OpY.pure rfl) ?_
              refine DW.two (i := 1) (j := 10) (by kernel_rfl) rfl rfl rfl rfl ?_ ?_
              · refine OpStep.call (vs := [.agg #[.int .i64 gNodes, gvEdges]]) (caps := []) Tcall_9 rfl rfl (fun w hs => toCouplingGraph_spec (hs.sl ghEdges) (by omega)) ?_
                rintro _ _ ⟨u28, rfl, rfl⟩
                refine ⟨(Some'.weak (.skip (.take (.take (.take (.take (.take (.take (.take (.take (.take (.take (.take (.take (.take (.take (.take (.take (.nil _))))))))))))))))))), ?_⟩
                refine DW.two (i := 3) (j := 10) (by kernel_rfl) rfl rfl rfl rfl ?_ ?_
                · refine OpStep.call (vs := [.agg #[.int .i64 cQubits, cvGates]]) (caps := []) Tcall_10 rfl rfl (fun w hs => toCircuit_spec (hs.sl chGates) (by omega)) ?_
                  rintro _ _ ⟨u29, rfl, rfl⟩
                  refine ⟨(Some'.weak (.skip (.skip (.take (.take (.take (.take (.take (.take (.take (.take (.take (.take (.take (.take (.take (.take (.take (.take (.nil _)))))))))))))))))))), ?_⟩
                  refine DW.two (i := 5) (j := 10) (by kernel_rfl) rfl rfl rfl rfl ?_ ?_
                  · refine OpStep.call (vs := [.slice pA pn pc]) (caps := []) Tcall_11 rfl rfl (fun w hs => toIntS_spec (hs.sl ph) (by omega)) ?_
                    rintro u30 _ rfl
                    refine ⟨(Some'.weak (.skip (.skip (.skip (.take (.take (.take (.take (.take (.take (.take (.take (.take (.take (.take (.take (.take (.take (.take (.take (.nil _))))))))))))))))))))), ?_⟩
                    refine DW.two (i := 6) (j := 10) (by kernel_rfl) rfl rfl rfl rfl ?_ ?_
                    · refine OpStep.call (vs := [.agg #[.int .i64 gNodes, u28], .agg #[.int .i64 cQubits, u29], u30]) (caps := []) Tcall_17 rfl rfl (fun w hs => (by have h := RouteFrom_spec (M := M) (N := gNodes) (Q := cQubits) hM (hs.slOwn (.tail _ (.tail _ (List.Mem.head _)))) (hs.slOwn (.tail _ (List.Mem.head _))) (hs.slOwn (.head _)); rw [hpl, htl, hok] at h; exact h)) ?_
                      rintro _ _ ⟨u31, u32, rfl, rfl⟩
                      refine ⟨(Some'.weak (.skip (.skip (.skip (.skip (.skip (.take (.take (.take (.take (.take (.take (.take (.take (.take (.take (.take (.take (.take (.take (.take (.take (.nil _))))))))))))))))))))))), ?_⟩
                      refine DW.take (i := 7) (v := .tuple #[.agg #[u31, u32], .bool ok]) rfl (by kernel_rfl) (by kernel_rfl) (by kernel_rfl) (fun _ _ _ h => h) (Some'.weak (.skip (.skip (.skip (.skip (.skip (.take (.take (.take (.take (.take (.take (.take (.take (.take (.take (.take (.take (.take (.take (.take (.take (.nil _))))))))))))))))))))))) rfl (OpY.pure rfl) ?_
                      refine DW.take (i := 8) (v := .agg #[u31, u32]) rfl (by kernel_rfl) (by kernel_rfl) (by kernel_rfl) (fun _ _ _ h => h) (Some'.weak (.skip (.skip (.skip (.skip (.skip (.take (.take (.take (.take (.take (.take (.take (.take (.take (.take (.take (.take (.take (.take (.take (.take (.nil _))))))))))))))))))))))) rfl (OpY.pure rfl) ?_
                      refine DW.take (i := 9) (v := .bool ok) rfl (by kernel_rfl) (by kernel_rfl) (by kernel_rfl) (fun _ _ _ h => h) (Some'.weak (.skip (.skip (.skip (.skip (.skip (.take (.take (.take (.take (.take (.take (.take (.take (.take (.take (.take (.take (.take (.take (.take (.take (.nil _))))))))))))))))))))))) rfl (OpY.pure rfl) ?_
                      refine DW.step (i := 10) (by kernel_rfl) rfl rfl (OpStep.alloc (zs := [.slice none 0 0, .slice none 0 0]) Tzero_48 fun b11 => ?_)
                      refine ⟨(Some'.weak (.skip (.skip (.skip (.skip (.skip (.skip (.take (.take (.take (.take (.take (.take (.take (.take (.take (.take (.take (.take (.take (.take (.take (.take (.nil _)))))))))))))))))))))))), ?_⟩
                      refine DW.formOwn (.tail _ (List.Mem.head _)) (fun A_u311 c_u311 hv hcapc_u311 hmaxc_u311 => ?_)
                      subst hv
                      refine DW.formOwn (.tail _ (.tail _ (List.Mem.head _))) (fun A_u321 c_u321 hv hcapc_u321 hmaxc_u321 => ?_)
                      subst hv
                      refine DW.step (i := 11) (by kernel_rfl) rfl rfl (OpStep.storeAll (us := [.slice A_u311 (pl.length) c_u311, .slice A_u321 (tl.length) c_u321]) Tsize_48 rfl rfl rfl (.here _) rfl ?_)
                      refine ⟨(Some'.weak (.skip (.skip (.skip (.skip (.skip (.skip (.take (.take (.take (.take (.take (.take (.take (.take (.take (.take (.take (.take (.take (.take (.take (.take (.nil _)))))))))))))))))))))))), ?_⟩
                      refine DW.take (i := 12) (v := .bool ok) rfl (by kernel_rfl) (by kernel_rfl) (by kernel_rfl) (fun _ _ _ h => h) (Some'.weak (.skip (.skip (.skip (.skip (.skip (.skip (.take (.take (.take (.take (.take (.take (.take (.take (.take (.take (.take (.take (.take (.take (.take (.take (.nil _)))))))))))))))))))))))) rfl (OpY.pure rfl) ?_
                      refine DW.done (by kernel_rfl) ?_
                      refine Run.seq ?_
                      refine Run.seq ?_
                      refine Run.region ?_
                      refine Run.q (v := .agg #[.slice A_u311 (pl.length) c_u311, .slice A_u321 (tl.length) c_u321]) rfl (OpQ.y (OpY.loadN (cs := [.slice A_u311 (pl.length) c_u311, .slice A_u321 (tl.length) c_u321]) Tagg_48 rfl (Cells.blk (.head _) ⟨rfl, rfl, trivial⟩))) ?_
                      refine Run.q (v := .agg #[x, y]) rfl (OpQ.y (OpY.loadN (cs := [x, y]) Tagg_48 rfl (Cells.blk (.tail _ (.tail _ (.tail _ (.tail _ (.tail _ (.tail _ (.tail _ (.tail _ (.tail _ (.tail _ (.tail _ (.tail _ (.tail _ (.tail _ (.tail _ (.tail _ (.tail _ (List.Mem.head _)))))))))))))))))) ⟨rfl, rfl, trivial⟩))) ?_
                      refine Run.q (v := .bool true) rfl (OpQ.call (vs := [.agg #[.slice A_u311 (pl.length) c_u311, .slice A_u321 (tl.length) c_u321], .agg #[x, y]]) (caps := []) Tcall_18 rfl rfl (fun w hs => eqRoute_true (hs.slOwn (.tail _ (List.Mem.head _))) (hs.slOwn (.tail _ (.tail _ (List.Mem.head _)))) (hs.slOwn (.tail _ (.tail _ (.tail _ (.tail _ (.tail _ (.tail _ (.tail _ (.tail _ (.tail _ (.tail _ (.tail _ (.tail _ (.tail _ (.tail _ (.tail _ (.tail _ (.tail _ (.tail _ (List.Mem.head _)))))))))))))))))))) (hs.slOwn (.tail _ (.tail _ (.tail _ (.tail _ (.tail _ (.tail _ (.tail _ (.tail _ (.tail _ (.tail _ (.tail _ (.tail _ (.tail _ (.tail _ (.tail _ (.tail _ (.tail _ (.tail _ (.tail _ (List.Mem.head _))))))))))))))))))))))) ?_
                      refine Run.q (v := .bool false) rfl (OpQ.y (OpY.pure rfl)) ?_
                      refine Run.q (v := .bool false) rfl (OpQ.y (OpY.pure rfl)) ?_
                      refine Run.q (v := .bool ok) rfl (OpQ.y (OpY.pure rfl)) ?_
                      refine Run.q (v := .bool ok) rfl (OpQ.y (OpY.pure rfl)) ?_
                      refine Run.q (v := .bool false) rfl (OpQ.y (OpY.neqBSame Tbool_4 rfl rfl rfl)) ?_
                      refine Run.q (v := .bool false) rfl (OpQ.y (OpY.pure rfl)) ?_
                      refine Run.done ?_
                      refine Run.cond (b := false) rfl (fun h => nomatch h) (fun _ => ?_)
                      refine Run.skip ?_
                      refine Run.seq ?_
                      refine Run.region ?_
                      refine Run.q (v := .int .i64 1) rfl (OpQ.y (OpY.pure rfl)) ?_
                      refine Run.done ?_
                      refine Run.seq ?_
                      refine Run.region ?_
                      refine Run.q (v := .agg #[.slice A_u231 (pl.length) c_u231, .slice A_u241 (tl.length) c_u241]) rfl (OpQ.y (OpY.loadN (cs := [.slice A_u231 (pl.length) c_u231, .slice A_u241 (tl.length) c_u241]) Tagg_48 rfl (Cells.blk (.tail _ (.tail _ (.tail _ (.tail _ (.tail _ (.tail _ (.tail _ (.tail _ (.tail _ (.tail _ (.tail _ (.tail _ (.tail _ (.tail _ (List.Mem.head _))))))))))))))) ⟨rfl, rfl, trivial⟩))) ?_
                      refine Run.q (v := .int .i64 1) rfl (OpQ.y (OpY.pure rfl)) ?_
                      refine Run.q (v := .int .i64 (1 + ((pl.length : Nat) : Int) * 1 + ((tl.length : Nat) : Int) * 3)) rfl (OpQ.call (vs := [.agg #[.slice A_u231 (pl.length) c_u231, .slice A_u241 (tl.length) c_u241], .int .i64 1]) (caps := []) Tcall_23 rfl rfl (fun w hs => heldRoute_true (hs.slOwn (.tail _ (.tail _ (.tail _ (.tail _ (.tail _ (.tail _ (.tail _ (List.Mem.head _))))))))) (hs.slOwn (.tail _ (.tail _ (.tail _ (.tail _ (.tail _ (.tail _ (List.Mem.head _)))))))) (by omega) (by omega) rfl rfl)) ?_
                      refine Run.q (v := .int .i64 (1 + ((pl.length : Nat) : Int) * 1 + ((tl.length : Nat) : Int) * 3)) rfl (OpQ.y (OpY.pure rfl)) ?_
                      refine Run.done ?_
                      refine Run.seq ?_
                      refine Run.seq ?_
                      refine Run.region ?_
                      refine Run.q (v := .int .i64 (1 + ((pl.length : Nat) : Int) * 1 + ((tl.length : Nat) : Int) * 3)) rfl (OpQ.y (OpY.pure rfl)) ?_
                      refine Run.q (v := .bool (decide ((1 + ((pl.length : Nat) : Int) * 1 + ((tl.length : Nat) : Int) * 3) < 0))) rfl (OpQ.y (OpY.pure rfl)) ?_
                      refine Run.done ?_
                      refine Run.cond (b := decide ((1 + ((pl.length : Nat) : Int) * 1 + ((tl.length : Nat) : Int) * 3) < 0)) rfl (fun h136 => ?_) (fun h136 => ?_)
                      · have p136 := h136; try simp only [bs] at p136
                        exact absurd h136 (by simp <;> omega) --DONE
                      · have p136 := h136; try simp only [bs] at p136
                        refine Run.skip ?_
                        refine Run.seq ?_
                        refine Run.seq ?_
                        refine Run.region ?_
                        refine Run.q (v := .int .i64 (1 + ((pl.length : Nat) : Int) * 1 + ((tl.length : Nat) : Int) * 3)) rfl (OpQ.y (OpY.pure rfl)) ?_
                        refine Run.q (v := .int .i64 (1 + ((pl.length : Nat) : Int) * 1 + ((tl.length : Nat) : Int) * 3)) rfl (OpQ.y (OpY.pure rfl)) ?_
                        refine Run.q (v := .bool false) rfl (OpQ.y (OpY.neqSame rfl rfl rfl)) ?_
                        refine Run.done ?_
                        refine Run.cond (b := false) rfl (fun h => nomatch h) (fun _ => ?_)
                        refine Run.skip ?_
                        refine Run.seq ?_
                        refine Run.region ?_
                        refine Run.q (v := .bool true) rfl (OpQ.y (OpY.pure rfl)) ?_
                        refine Run.done ?_
                        refine Run.ret ?_
                        refine ⟨.bool true, [], Out.one rfl rfl, (Some'.weak (.nil _)), ?_⟩
                        rfl
                    · refine OpStep.alloc (zs := [.slice none 0 0, .slice none 0 0]) Tzero_48 fun b12 => ?_
                      refine ⟨(Some'.weak (.skip (.skip (.skip (.skip (.take (.take (.take (.take (.take (.take (.take (.take (.take (.take (.take (.take (.take (.take (.take (.take (.nil _)))))))))))))))))))))), ?_⟩
                      refine DW.step (i := 6) (by kernel_rfl) rfl rfl (OpStep.call (vs := [.agg #[.int .i64 gNodes, u28], .agg #[.int .i64 cQubits, u29], u30]) (caps := []) Tcall_17 rfl rfl (fun w hs => (by have h := RouteFrom_spec (M := M) (N := gNodes) (Q := cQubits) hM (hs.slOwn (.tail _ (.tail _ (.tail _ (List.Mem.head _))))) (hs.slOwn (.tail _ (.tail _ (List.Mem.head _)))) (hs.slOwn (.tail _ (List.Mem.head _))); rw [hpl, htl, hok] at h; exact h)) ?_)
                      rintro _ _ ⟨u33, u34, rfl, rfl⟩
                      refine ⟨(Some'.weak (.skip (.skip (.skip (.skip (.skip (.skip (.take (.take (.take (.take (.take (.take (.take (.take (.take (.take (.take (.take (.take (.take (.take (.take (.nil _)))))))))))))))))))))))), ?_⟩
                      refine DW.take (i := 7) (v := .tuple #[.agg #[u33, u34], .bool ok]) rfl (by kernel_rfl) (by kernel_rfl) (by kernel_rfl) (fun _ _ _ h => h) (Some'.weak (.skip (.skip (.skip (.skip (.skip (.skip (.take (.take (.take (.take (.take (.take (.take (.take (.take (.take (.take (.take (.take (.take (.take (.take (.nil _)))))))))))))))))))))))) rfl (OpY.pure rfl) ?_
                      refine DW.take (i := 8) (v := .agg #[u33, u34]) rfl (by kernel_rfl) (by kernel_rfl) (by kernel_rfl) (fun _ _ _ h => h) (Some'.weak (.skip (.skip (.skip (.skip (.skip (.skip (.take (.take (.take (.take (.take (.take (.take (.take (.take (.take (.take (.take (.take (.take (.take (.take (.nil _)))))))))))))))))))))))) rfl (OpY.pure rfl) ?_
                      refine DW.take (i := 9) (v := .bool ok) rfl (by kernel_rfl) (by kernel_rfl) (by kernel_rfl) (fun _ _ _ h => h) (Some'.weak (.skip (.skip (.skip (.skip (.skip (.skip (.take (.take (.take (.take (.take (.take (.take (.take (.take (.take (.take (.take (.take (.take (.take (.take (.nil _)))))))))))))))))))))))) rfl (OpY.pure rfl) ?_
                      refine DW.formOwn (.head _) (fun A_u331 c_u331 hv hcapc_u331 hmaxc_u331 => ?_)
                      subst hv
                      refine DW.formOwn (.tail _ (List.Mem.head _)) (fun A_u341 c_u341 hv hcapc_u341 hmaxc_u341 => ?_)
                      subst hv
                      refine DW.step (i := 11) (by kernel_rfl) rfl rfl (OpStep.storeAll (us := [.slice A_u331 (pl.length) c_u331, .slice A_u341 (tl.length) c_u341]) Tsize_48 rfl rfl rfl (.there _ (.there _ (.here _))) rfl ?_)
                      refine ⟨(Some'.weak (.skip (.skip (.skip (.skip (.skip (.skip (.take (.take (.take (.take (.take (.take (.take (.take (.take (.take (.take (.take (.take (.take (.take (.take (.nil _)))))))))))))))))))))))), ?_⟩
                      refine DW.take (i := 12) (v := .bool ok) rfl (by kernel_rfl) (by kernel_rfl) (by kernel_rfl) (fun _ _ _ h => h) (Some'.weak (.skip (.skip (.skip (.skip (.skip (.skip (.take (.take (.take (.take (.take (.take (.take (.take (.take (.take (.take (.take (.take (.take (.take (.take (.nil _)))))))))))))))))))))))) rfl (OpY.pure rfl) ?_
                      refine DW.done (by kernel_rfl) ?_
                      refine Run.seq ?_
                      refine Run.seq ?_
                      refine Run.region ?_
                      refine Run.q (v := .agg #[.slice A_u331 (pl.length) c_u331, .slice A_u341 (tl.length) c_u341]) rfl (OpQ.y (OpY.loadN (cs := [.slice A_u331 (pl.length) c_u331, .slice A_u341 (tl.length) c_u341]) Tagg_48 rfl (Cells.blk (.tail _ (.tail _ (List.Mem.head _))) ⟨rfl, rfl, trivial⟩))) ?_
                      refine Run.q (v := .agg #[x, y]) rfl (OpQ.y (OpY.loadN (cs := [x, y]) Tagg_48 rfl (Cells.blk (.tail _ (.tail _ (.tail _ (.tail _ (.tail _ (.tail _ (.tail _ (.tail _ (.tail _ (.tail _ (.tail _ (.tail _ (.tail _ (.tail _ (.tail _ (.tail _ (.tail _ (List.Mem.head _)))))))))))))))))) ⟨rfl, rfl, trivial⟩))) ?_
                      refine Run.q (v := .bool true) rfl (OpQ.call (vs := [.agg #[.slice A_u331 (pl.length) c_u331, .slice A_u341 (tl.length) c_u341], .agg #[x, y]]) (caps := []) Tcall_18 rfl rfl (fun w hs => eqRoute_true (hs.slOwn (.head _)) (hs.slOwn (.tail _ (List.Mem.head _))) (hs.slOwn (.tail _ (.tail _ (.tail _ (.tail _ (.tail _ (.tail _ (.tail _ (.tail _ (.tail _ (.tail _ (.tail _ (.tail _ (.tail _ (.tail _ (.tail _ (.tail _ (.tail _ (.tail _ (List.Mem.head _)))))))))))))))))))) (hs.slOwn (.tail _ (.tail _ (.tail _ (.tail _ (.tail _ (.tail _ (.tail _ (.tail _ (.tail _ (.tail _ (.tail _ (.tail _ (.tail _ (.tail _ (.tail _ (.tail _ (.tail _ (.tail _ (.tail _ (List.Mem.head _))))))))))))))))))))))) ?_
                      refine Run.q (v := .bool false) rfl (OpQ.y (OpY.pure rfl)) ?_
                      refine Run.q (v := .bool false) rfl (OpQ.y (OpY.pure rfl)) ?_
                      refine Run.q (v := .bool ok) rfl (OpQ.y (OpY.pure rfl)) ?_
                      refine Run.q (v := .bool ok) rfl (OpQ.y (OpY.pure rfl)) ?_
                      refine Run.q (v := .bool false) rfl (OpQ.y (OpY.neqBSame Tbool_4 rfl rfl rfl)) ?_
                      refine Run.q (v := .bool false) rfl (OpQ.y (OpY.pure rfl)) ?_
                      refine Run.done ?_
                      refine Run.cond (b := false) rfl (fun h => nomatch h) (fun _ => ?_)
                      refine Run.skip ?_
                      refine Run.seq ?_
                      refine Run.region ?_
                      refine Run.q (v := .int .i64 1) rfl (OpQ.y (OpY.pure rfl)) ?_
                      refine Run.done ?_
                      refine Run.seq ?_
                      refine Run.region ?_
                      refine Run.q (v := .agg #[.slice A_u231 (pl.length) c_u231, .slice A_u241 (tl.length) c_u241]) rfl (OpQ.y (OpY.loadN (cs := [.slice A_u231 (pl.length) c_u231, .slice A_u241 (tl.length) c_u241]) Tagg_48 rfl (Cells.blk (.tail _ (.tail _ (.tail _ (.tail _ (.tail _ (.tail _ (.tail _ (.tail _ (.tail _ (.tail _ (.tail _ (.tail _ (.tail _ (.tail _ (List.Mem.head _))))))))))))))) ⟨rfl, rfl, trivial⟩))) ?_
                      refine Run.q (v := .int .i64 1) rfl (OpQ.y (OpY.pure rfl)) ?_
                      refine Run.q (v := .int .i64 (1 + ((pl.length : Nat) : Int) * 1 + ((tl.length : Nat) : Int) * 3)) rfl (OpQ.call (vs := [.agg #[.slice A_u231 (pl.length) c_u231, .slice A_u241 (tl.length) c_u241], .int .i64 1]) (caps := []) Tcall_23 rfl rfl (fun w hs => heldRoute_true (hs.slOwn (.tail _ (.tail _ (.tail _ (.tail _ (.tail _ (.tail _ (.tail _ (List.Mem.head _))))))))) (hs.slOwn (.tail _ (.tail _ (.tail _ (.tail _ (.tail _ (.tail _ (List.Mem.head _)))))))) (by omega) (by omega) rfl rfl)) ?_
                      refine Run.q (v := .int .i64 (1 + ((pl.length : Nat) : Int) * 1 + ((tl.length : Nat) : Int) * 3)) rfl (OpQ.y (OpY.pure rfl)) ?_
                      refine Run.done ?_
                      refine Run.seq ?_
                      refine Run.seq ?_
                      refine Run.region ?_
                      refine Run.q (v := .int .i64 (1 + ((pl.length : Nat) : Int) * 1 + ((tl.length : Nat) : Int) * 3)) rfl (OpQ.y (OpY.pure rfl)) ?_
                      refine Run.q (v := .bool (decide ((1 + ((pl.length : Nat) : Int) * 1 + ((tl.length : Nat) : Int) * 3) < 0))) rfl (OpQ.y (OpY.pure rfl)) ?_
                      refine Run.done ?_
                      refine Run.cond (b := decide ((1 + ((pl.length : Nat) : Int) * 1 + ((tl.length : Nat) : Int) * 3) < 0)) rfl (fun h136 => ?_) (fun h136 => ?_)
                      · have p136 := h136; try simp only [bs] at p136
                        exact absurd h136 (by simp <;> omega) --DONE
                      · have p136 := h136; try simp only [bs] at p136
                        refine Run.skip ?_
                        refine Run.seq ?_
                        refine Run.seq ?_
                        refine Run.region ?_
                        refine Run.q (v := .int .i64 (1 + ((pl.length : Nat) : Int) * 1 + ((tl.length : Nat) : Int) * 3)) rfl (OpQ.y (OpY.pure rfl)) ?_
                        refine Run.q (v := .int .i64 (1 + ((pl.length : Nat) : Int) * 1 + ((tl.length : Nat) : Int) * 3)) rfl (OpQ.y (OpY.pure rfl)) ?_
                        refine Run.q (v := .bool false) rfl (OpQ.y (OpY.neqSame rfl rfl rfl)) ?_
                        refine Run.done ?_
                        refine Run.cond (b := false) rfl (fun h => nomatch h) (fun _ => ?_)
                        refine Run.skip ?_
                        refine Run.seq ?_
                        refine Run.region ?_
                        refine Run.q (v := .bool true) rfl (OpQ.y (OpY.pure rfl)) ?_
                        refine Run.done ?_
                        refine Run.ret ?_
                        refine ⟨.bool true, [], Out.one rfl rfl, (Some'.weak (.nil _)), ?_⟩
                        rfl
                  · refine OpStep.alloc (zs := [.slice none 0 0, .slice none 0 0]) Tzero_48 fun b13 => ?_
                    refine ⟨(Some'.weak (.skip (.skip (.skip (.take (.take (.take (.take (.take (.take (.take (.take (.take (.take (.take (.take (.take (.take (.take (.take (.nil _))))))))))))))))))))), ?_⟩
                    refine DW.step (i := 5) (by kernel_rfl) rfl rfl (OpStep.call (vs := [.slice pA pn pc]) (caps := []) Tcall_11 rfl rfl (fun w hs => toIntS_spec (hs.sl ph) (by omega)) ?_)
                    rintro u35 _ rfl
                    refine ⟨(Some'.weak (.skip (.skip (.skip (.skip (.take (.take (.take (.take (.take (.take (.take (.take (.take (.take (.take (.take (.take (.take (.take (.take (.nil _)))))))))))))))))))))), ?_⟩
                    refine DW.step (i := 6) (by kernel_rfl) rfl rfl (OpStep.call (vs := [.agg #[.int .i64 gNodes, u28], .agg #[.int .i64 cQubits, u29], u35]) (caps := []) Tcall_17 rfl rfl (fun w hs => (by have h := RouteFrom_spec (M := M) (N := gNodes) (Q := cQubits) hM (hs.slOwn (.tail _ (.tail _ (.tail _ (List.Mem.head _))))) (hs.slOwn (.tail _ (.tail _ (List.Mem.head _)))) (hs.slOwn (.head _)); rw [hpl, htl, hok] at h; exact h)) ?_)
                    rintro _ _ ⟨u36, u37, rfl, rfl⟩
                    refine ⟨(Some'.weak (.skip (.skip (.skip (.skip (.skip (.skip (.take (.take (.take (.take (.take (.take (.take (.take (.take (.take (.take (.take (.take (.take (.take (.take (.nil _)))))))))))))))))))))))), ?_⟩
                    refine DW.take (i := 7) (v := .tuple #[.agg #[u36, u37], .bool ok]) rfl (by kernel_rfl) (by kernel_rfl) (by kernel_rfl) (fun _ _ _ h => h) (Some'.weak (.skip (.skip (.skip (.skip (.skip (.skip (.take (.take (.take (.take (.take (.take (.take (.take (.take (.take (.take (.take (.take (.take (.take (.take (.nil _)))))))))))))))))))))))) rfl (OpY.pure rfl) ?_
                    refine DW.take (i := 8) (v := .agg #[u36, u37]) rfl (by kernel_rfl) (by kernel_rfl) (by kernel_rfl) (fun _ _ _ h => h) (Some'.weak (.skip (.skip (.skip (.skip (.skip (.skip (.take (.take (.take (.take (.take (.take (.take (.take (.take (.take (.take (.take (.take (.take (.take (.take (.nil _)))))))))))))))))))))))) rfl (OpY.pure rfl) ?_
                    refine DW.take (i := 9) (v := .bool ok) rfl (by kernel_rfl) (by kernel_rfl) (by kernel_rfl) (fun _ _ _ h => h) (Some'.weak (.skip (.skip (.skip (.skip (.skip (.skip (.take (.take (.take (.take (.take (.take (.take (.take (.take (.take (.take (.take (.take (.take (.take (.take (.nil _)))))))))))))))))))))))) rfl (OpY.pure rfl) ?_
                    refine DW.formOwn (.head _) (fun A_u361 c_u361 hv hcapc_u361 hmaxc_u361 => ?_)
                    subst hv
                    refine DW.formOwn (.tail _ (List.Mem.head _)) (fun A_u371 c_u371 hv hcapc_u371 hmaxc_u371 => ?_)
                    subst hv
                    refine DW.step (i := 11) (by kernel_rfl) rfl rfl (OpStep.storeAll (us := [.slice A_u361 (pl.length) c_u361, .slice A_u371 (tl.length) c_u371]) Tsize_48 rfl rfl rfl (.there _ (.there _ (.there _ (.here _)))) rfl ?_)
                    refine ⟨(Some'.weak (.skip (.skip (.skip (.skip (.skip (.skip (.take (.take (.take (.take (.take (.take (.take (.take (.take (.take (.take (.take (.take (.take (.take (.take (.nil _)))))))))))))))))))))))), ?_⟩
                    refine DW.take (i := 12) (v := .bool ok) rfl (by kernel_rfl) (by kernel_rfl) (by kernel_rfl) (fun _ _ _ h => h) (Some'.weak (.skip (.skip (.skip (.skip (.skip (.skip (.take (.take (.take (.take (.take (.take (.take (.take (.take (.take (.take (.take (.take (.take (.take (.take (.nil _)))))))))))))))))))))))) rfl (OpY.pure rfl) ?_
                    refine DW.done (by kernel_rfl) ?_
                    refine Run.seq ?_
                    refine Run.seq ?_
                    refine Run.region ?_
                    refine Run.q (v := .agg #[.slice A_u361 (pl.length) c_u361, .slice A_u371 (tl.length) c_u371]) rfl (OpQ.y (OpY.loadN (cs := [.slice A_u361 (pl.length) c_u361, .slice A_u371 (tl.length) c_u371]) Tagg_48 rfl (Cells.blk (.tail _ (.tail _ (.tail _ (List.Mem.head _)))) ⟨rfl, rfl, trivial⟩))) ?_
                    refine Run.q (v := .agg #[x, y]) rfl (OpQ.y (OpY.loadN (cs := [x, y]) Tagg_48 rfl (Cells.blk (.tail _ (.tail _ (.tail _ (.tail _ (.tail _ (.tail _ (.tail _ (.tail _ (.tail _ (.tail _ (.tail _ (.tail _ (.tail _ (.tail _ (.tail _ (.tail _ (.tail _ (List.Mem.head _)))))))))))))))))) ⟨rfl, rfl, trivial⟩))) ?_
                    refine Run.q (v := .bool true) rfl (OpQ.call (vs := [.agg #[.slice A_u361 (pl.length) c_u361, .slice A_u371 (tl.length) c_u371], .agg #[x, y]]) (caps := []) Tcall_18 rfl rfl (fun w hs => eqRoute_true (hs.slOwn (.head _)) (hs.slOwn (.tail _ (List.Mem.head _))) (hs.slOwn (.tail _ (.tail _ (.tail _ (.tail _ (.tail _ (.tail _ (.tail _ (.tail _ (.tail _ (.tail _ (.tail _ (.tail _ (.tail _ (.tail _ (.tail _ (.tail _ (.tail _ (.tail _ (List.Mem.head _)))))))))))))))))))) (hs.slOwn (.tail _ (.tail _ (.tail _ (.tail _ (.tail _ (.tail _ (.tail _ (.tail _ (.tail _ (.tail _ (.tail _ (.tail _ (.tail _ (.tail _ (.tail _ (.tail _ (.tail _ (.tail _ (.tail _ (List.Mem.head _))))))))))))))))))))))) ?_
                    refine Run.q (v := .bool false) rfl (OpQ.y (OpY.pure rfl)) ?_
                    refine Run.q (v := .bool false) rfl (OpQ.y (OpY.pure rfl)) ?_
                    refine Run.q (v := .bool ok) rfl (OpQ.y (OpY.pure rfl)) ?_
                    refine Run.q (v := .bool ok) rfl (OpQ.y (OpY.pure rfl)) ?_
                    refine Run.q (v := .bool false) rfl (OpQ.y (OpY.neqBSame Tbool_4 rfl rfl rfl)) ?_
                    refine Run.q (v := .bool false) rfl (OpQ.y (OpY.pure rfl)) ?_
                    refine Run.done ?_
                    refine Run.cond (b := false) rfl (fun h => nomatch h) (fun _ => ?_)
                    refine Run.skip ?_
                    refine Run.seq ?_
                    refine Run.region ?_
                    refine Run.q (v := .int .i64 1) rfl (OpQ.y (OpY.pure rfl)) ?_
                    refine Run.done ?_
                    refine Run.seq ?_
                    refine Run.region ?_
                    refine Run.q (v := .agg #[.slice A_u231 (pl.length) c_u231, .slice A_u241 (tl.length) c_u241]) rfl (OpQ.y (OpY.loadN (cs := [.slice A_u231 (pl.length) c_u231, .slice A_u241 (tl.length) c_u241]) Tagg_48 rfl (Cells.blk (.tail _ (.tail _ (.tail _ (.tail _ (.tail _ (.tail _ (.tail _ (.tail _ (.tail _ (.tail _ (.tail _ (.tail _ (.tail _ (.tail _ (List.Mem.head _))))))))))))))) ⟨rfl, rfl, trivial⟩))) ?_
                    refine Run.q (v := .int .i64 1) rfl (OpQ.y (OpY.pure rfl)) ?_
                    refine Run.q (v := .int .i64 (1 + ((pl.length : Nat) : Int) * 1 + ((tl.length : Nat) : Int) * 3)) rfl (OpQ.call (vs := [.agg #[.slice A_u231 (pl.length) c_u231, .slice A_u241 (tl.length) c_u241], .int .i64 1]) (caps := []) Tcall_23 rfl rfl (fun w hs => heldRoute_true (hs.slOwn (.tail _ (.tail _ (.tail _ (.tail _ (.tail _ (.tail _ (.tail _ (List.Mem.head _))))))))) (hs.slOwn (.tail _ (.tail _ (.tail _ (.tail _ (.tail _ (.tail _ (List.Mem.head _)))))))) (by omega) (by omega) rfl rfl)) ?_
                    refine Run.q (v := .int .i64 (1 + ((pl.length : Nat) : Int) * 1 + ((tl.length : Nat) : Int) * 3)) rfl (OpQ.y (OpY.pure rfl)) ?_
                    refine Run.done ?_
                    refine Run.seq ?_
                    refine Run.seq ?_
                    refine Run.region ?_
                    refine Run.q (v := .int .i64 (1 + ((pl.length : Nat) : Int) * 1 + ((tl.length : Nat) : Int) * 3)) rfl (OpQ.y (OpY.pure rfl)) ?_
                    refine Run.q (v := .bool (decide ((1 + ((pl.length : Nat) : Int) * 1 + ((tl.length : Nat) : Int) * 3) < 0))) rfl (OpQ.y (OpY.pure rfl)) ?_
                    refine Run.done ?_
                    refine Run.cond (b := decide ((1 + ((pl.length : Nat) : Int) * 1 + ((tl.length : Nat) : Int) * 3) < 0)) rfl (fun h136 => ?_) (fun h136 => ?_)
                    · have p136 := h136; try simp only [bs] at p136
                      exact absurd h136 (by simp <;> omega) --DONE
                    · have p136 := h136; try simp only [bs] at p136
                      refine Run.skip ?_
                      refine Run.seq ?_
                      refine Run.seq ?_
                      refine Run.region ?_
                      refine Run.q (v := .int .i64 (1 + ((pl.length : Nat) : Int) * 1 + ((tl.length : Nat) : Int) * 3)) rfl (OpQ.y (OpY.pure rfl)) ?_
                      refine Run.q (v := .int .i64 (1 + ((pl.length : Nat) : Int) * 1 + ((tl.length : Nat) : Int) * 3)) rfl (OpQ.y (OpY.pure rfl)) ?_
                      refine Run.q (v := .bool false) rfl (OpQ.y (OpY.neqSame rfl rfl rfl)) ?_
                      refine Run.done ?_
                      refine Run.cond (b := false) rfl (fun h => nomatch h) (fun _ => ?_)
                      refine Run.skip ?_
                      refine Run.seq ?_
                      refine Run.region ?_
                      refine Run.q (v := .bool true) rfl (OpQ.y (OpY.pure rfl)) ?_
                      refine Run.done ?_
                      refine Run.ret ?_
                      refine ⟨.bool true, [], Out.one rfl rfl, (Some'.weak (.nil _)), ?_⟩
                      rfl
                · refine OpStep.alloc (zs := [.slice none 0 0, .slice none 0 0]) Tzero_48 fun b14 => ?_
                  refine ⟨(Some'.weak (.skip (.skip (.take (.take (.take (.take (.take (.take (.take (.take (.take (.take (.take (.take (.take (.take (.take (.take (.nil _)))))))))))))))))))), ?_⟩
                  refine DW.step (i := 3) (by kernel_rfl) rfl rfl (OpStep.call (vs := [.agg #[.int .i64 cQubits, cvGates]]) (caps := []) Tcall_10 rfl rfl (fun w hs => toCircuit_spec (hs.sl chGates) (by omega)) ?_)
                  rintro _ _ ⟨u38, rfl, rfl⟩
                  refine ⟨(Some'.weak (.skip (.skip (.skip (.take (.take (.take (.take (.take (.take (.take (.take (.take (.take (.take (.take (.take (.take (.take (.take (.nil _))))))))))))))))))))), ?_⟩
                  refine DW.step (i := 5) (by kernel_rfl) rfl rfl (OpStep.call (vs := [.slice pA pn pc]) (caps := []) Tcall_11 rfl rfl (fun w hs => toIntS_spec (hs.sl ph) (by omega)) ?_)
                  rintro u39 _ rfl
                  refine ⟨(Some'.weak (.skip (.skip (.skip (.skip (.take (.take (.take (.take (.take (.take (.take (.take (.take (.take (.take (.take (.take (.take (.take (.take (.nil _)))))))))))))))))))))), ?_⟩
                  refine DW.step (i := 6) (by kernel_rfl) rfl rfl (OpStep.call (vs := [.agg #[.int .i64 gNodes, u28], .agg #[.int .i64 cQubits, u38], u39]) (caps := []) Tcall_17 rfl rfl (fun w hs => (by have h := RouteFrom_spec (M := M) (N := gNodes) (Q := cQubits) hM (hs.slOwn (.tail _ (.tail _ (.tail _ (List.Mem.head _))))) (hs.slOwn (.tail _ (List.Mem.head _))) (hs.slOwn (.head _)); rw [hpl, htl, hok] at h; exact h)) ?_)
                  rintro _ _ ⟨u40, u41, rfl, rfl⟩
                  refine ⟨(Some'.weak (.skip (.skip (.skip (.skip (.skip (.skip (.take (.take (.take (.take (.take (.take (.take (.take (.take (.take (.take (.take (.take (.take (.take (.take (.nil _)))))))))))))))))))))))), ?_⟩
                  refine DW.take (i := 7) (v := .tuple #[.agg #[u40, u41], .bool ok]) rfl (by kernel_rfl) (by kernel_rfl) (by kernel_rfl) (fun _ _ _ h => h) (Some'.weak (.skip (.skip (.skip (.skip (.skip (.skip (.take (.take (.take (.take (.take (.take (.take (.take (.take (.take (.take (.take (.take (.take (.take (.take (.nil _)))))))))))))))))))))))) rfl (OpY.pure rfl) ?_
                  refine DW.take (i := 8) (v := .agg #[u40, u41]) rfl (by kernel_rfl) (by kernel_rfl) (by kernel_rfl) (fun _ _ _ h => h) (Some'.weak (.skip (.skip (.skip (.skip (.skip (.skip (.take (.take (.take (.take (.take (.take (.take (.take (.take (.take (.take (.take (.take (.take (.take (.take (.nil _)))))))))))))))))))))))) rfl (OpY.pure rfl) ?_
                  refine DW.take (i := 9) (v := .bool ok) rfl (by kernel_rfl) (by kernel_rfl) (by kernel_rfl) (fun _ _ _ h => h) (Some'.weak (.skip (.skip (.skip (.skip (.skip (.skip (.take (.take (.take (.take (.take (.take (.take (.take (.take (.take (.take (.take (.take (.take (.take (.take (.nil _)))))))))))))))))))))))) rfl (OpY.pure rfl) ?_
                  refine DW.formOwn (.head _) (fun A_u401 c_u401 hv hcapc_u401 hmaxc_u401 => ?_)
                  subst hv
                  refine DW.formOwn (.tail _ (List.Mem.head _)) (fun A_u411 c_u411 hv hcapc_u411 hmaxc_u411 => ?_)
                  subst hv
                  refine DW.step (i := 11) (by kernel_rfl) rfl rfl (OpStep.storeAll (us := [.slice A_u401 (pl.length) c_u401, .slice A_u411 (tl.length) c_u411]) Tsize_48 rfl rfl rfl (.there _ (.there _ (.there _ (.there _ (.here _))))) rfl ?_)
                  refine ⟨(Some'.weak (.skip (.skip (.skip (.skip (.skip (.skip (.take (.take (.take (.take (.take (.take (.take (.take (.take (.take (.take (.take (.take (.take (.take (.take (.nil _)))))))))))))))))))))))), ?_⟩
                  refine DW.take (i := 12) (v := .bool ok) rfl (by kernel_rfl) (by kernel_rfl) (by kernel_rfl) (fun _ _ _ h => h) (Some'.weak (.skip (.skip (.skip (.skip (.skip (.skip (.take (.take (.take (.take (.take (.take (.take (.take (.take (.take (.take (.take (.take (.take (.take (.take (.nil _)))))))))))))))))))))))) rfl (OpY.pure rfl) ?_
                  refine DW.done (by kernel_rfl) ?_
                  refine Run.seq ?_
                  refine Run.seq ?_
                  refine Run.region ?_
                  refine Run.q (v := .agg #[.slice A_u401 (pl.length) c_u401, .slice A_u411 (tl.length) c_u411]) rfl (OpQ.y (OpY.loadN (cs := [.slice A_u401 (pl.length) c_u401, .slice A_u411 (tl.length) c_u411]) Tagg_48 rfl (Cells.blk (.tail _ (.tail _ (.tail _ (.tail _ (List.Mem.head _))))) ⟨rfl, rfl, trivial⟩))) ?_
                  refine Run.q (v := .agg #[x, y]) rfl (OpQ.y (OpY.loadN (cs := [x, y]) Tagg_48 rfl (Cells.blk (.tail _ (.tail _ (.tail _ (.tail _ (.tail _ (.tail _ (.tail _ (.tail _ (.tail _ (.tail _ (.tail _ (.tail _ (.tail _ (.tail _ (.tail _ (.tail _ (.tail _ (List.Mem.head _)))))))))))))))))) ⟨rfl, rfl, trivial⟩))) ?_
                  refine Run.q (v := .bool true) rfl (OpQ.call (vs := [.agg #[.slice A_u401 (pl.length) c_u401, .slice A_u411 (tl.length) c_u411], .agg #[x, y]]) (caps := []) Tcall_18 rfl rfl (fun w hs => eqRoute_true (hs.slOwn (.head _)) (hs.slOwn (.tail _ (List.Mem.head _))) (hs.slOwn (.tail _ (.tail _ (.tail _ (.tail _ (.tail _ (.tail _ (.tail _ (.tail _ (.tail _ (.tail _ (.tail _ (.tail _ (.tail _ (.tail _ (.tail _ (.tail _ (.tail _ (.tail _ (List.Mem.head _)))))))))))))))))))) (hs.slOwn (.tail _ (.tail _ (.tail _ (.tail _ (.tail _ (.tail _ (.tail _ (.tail _ (.tail _ (.tail _ (.tail _ (.tail _ (.tail _ (.tail _ (.tail _ (.tail _ (.tail _ (.tail _ (.tail _ (List.Mem.head _))))))))))))))))))))))) ?_
                  refine Run.q (v := .bool false) rfl (OpQ.y (OpY.pure rfl)) ?_
                  refine Run.q (v := .bool false) rfl (OpQ.y (OpY.pure rfl)) ?_
                  refine Run.q (v := .bool ok) rfl (OpQ.y (OpY.pure rfl)) ?_
                  refine Run.q (v := .bool ok) rfl (OpQ.y (OpY.pure rfl)) ?_
                  refine Run.q (v := .bool false) rfl (OpQ.y (OpY.neqBSame Tbool_4 rfl rfl rfl)) ?_
                  refine Run.q (v := .bool false) rfl (OpQ.y (OpY.pure rfl)) ?_
                  refine Run.done ?_
                  refine Run.cond (b := false) rfl (fun h => nomatch h) (fun _ => ?_)
                  refine Run.skip ?_
                  refine Run.seq ?_
                  refine Run.region ?_
                  refine Run.q (v := .int .i64 1) rfl (OpQ.y (OpY.pure rfl)) ?_
                  refine Run.done ?_
                  refine Run.seq ?_
                  refine Run.region ?_
                  refine Run.q (v := .agg #[.slice A_u231 (pl.length) c_u231, .slice A_u241 (tl.length) c_u241]) rfl (OpQ.y (OpY.loadN (cs := [.slice A_u231 (pl.length) c_u231, .slice A_u241 (tl.length) c_u241]) Tagg_48 rfl (Cells.blk (.tail _ (.tail _ (.tail _ (.tail _ (.tail _ (.tail _ (.tail _ (.tail _ (.tail _ (.tail _ (.tail _ (.tail _ (.tail _ (.tail _ (List.Mem.head _))))))))))))))) ⟨rfl, rfl, trivial⟩))) ?_
                  refine Run.q (v := .int .i64 1) rfl (OpQ.y (OpY.pure rfl)) ?_
                  refine Run.q (v := .int .i64 (1 + ((pl.length : Nat) : Int) * 1 + ((tl.length : Nat) : Int) * 3)) rfl (OpQ.call (vs := [.agg #[.slice A_u231 (pl.length) c_u231, .slice A_u241 (tl.length) c_u241], .int .i64 1]) (caps := []) Tcall_23 rfl rfl (fun w hs => heldRoute_true (hs.slOwn (.tail _ (.tail _ (.tail _ (.tail _ (.tail _ (.tail _ (.tail _ (List.Mem.head _))))))))) (hs.slOwn (.tail _ (.tail _ (.tail _ (.tail _ (.tail _ (.tail _ (List.Mem.head _)))))))) (by omega) (by omega) rfl rfl)) ?_
                  refine Run.q (v := .int .i64 (1 + ((pl.length : Nat) : Int) * 1 + ((tl.length : Nat) : Int) * 3)) rfl (OpQ.y (OpY.pure rfl)) ?_
                  refine Run.done ?_
                  refine Run.seq ?_
                  refine Run.seq ?_
                  refine Run.region ?_
                  refine Run.q (v := .int .i64 (1 + ((pl.length : Nat) : Int) * 1 + ((tl.length : Nat) : Int) * 3)) rfl (OpQ.y (OpY.pure rfl)) ?_
                  refine Run.q (v := .bool (decide ((1 + ((pl.length : Nat) : Int) * 1 + ((tl.length : Nat) : Int) * 3) < 0))) rfl (OpQ.y (OpY.pure rfl)) ?_
                  refine Run.done ?_
                  refine Run.cond (b := decide ((1 + ((pl.length : Nat) : Int) * 1 + ((tl.length : Nat) : Int) * 3) < 0)) rfl (fun h136 => ?_) (fun h136 => ?_)
                  · have p136 := h136; try simp only [bs] at p136
                    exact absurd h136 (by simp <;> omega) --DONE
                  · have p136 := h136; try simp only [bs] at p136
                    refine Run.skip ?_
                    refine Run.seq ?_
                    refine Run.seq ?_
                    refine Run.region ?_
                    refine Run.q (v := .int .i64 (1 + ((pl.length : Nat) : Int) * 1 + ((tl.length : Nat) : Int) * 3)) rfl (OpQ.y (OpY.pure rfl)) ?_
                    refine Run.q (v := .int .i64 (1 + ((pl.length : Nat) : Int) * 1 + ((tl.length : Nat) : Int) * 3)) rfl (OpQ.y (OpY.pure rfl)) ?_
                    refine Run.q (v := .bool false) rfl (OpQ.y (OpY.neqSame rfl rfl rfl)) ?_
                    refine Run.done ?_
                    refine Run.cond (b := false) rfl (fun h => nomatch h) (fun _ => ?_)
                    refine Run.skip ?_
                    refine Run.seq ?_
                    refine Run.region ?_
                    refine Run.q (v := .bool true) rfl (OpQ.y (OpY.pure rfl)) ?_
                    refine Run.done ?_
                    refine Run.ret ?_
                    refine ⟨.bool true, [], Out.one rfl rfl, (Some'.weak (.nil _)), ?_⟩
                    rfl
              · refine OpStep.alloc (zs := [.slice none 0 0, .slice none 0 0]) Tzero_48 fun b15 => ?_
                refine ⟨(Some'.weak (.skip (.take (.take (.take (.take (.take (.take (.take (.take (.take (.take (.take (.take (.take (.take (.take (.take (.nil _))))))))))))))))))), ?_⟩
                refine DW.step (i := 1) (by kernel_rfl) rfl rfl (OpStep.call (vs := [.agg #[.int .i64 gNodes, gvEdges]]) (caps := []) Tcall_9 rfl rfl (fun w hs => toCouplingGraph_spec (hs.sl ghEdges) (by omega)) ?_)
                rintro _ _ ⟨u42, rfl, rfl⟩
                refine ⟨(Some'.weak (.skip (.skip (.take (.take (.take (.take (.take (.take (.take (.take (.take (.take (.take (.take (.take (.take (.take (.take (.nil _)))))))))))))))))))), ?_⟩
                refine DW.step (i := 3) (by kernel_rfl) rfl rfl (OpStep.call (vs := [.agg #[.int .i64 cQubits, cvGates]]) (caps := []) Tcall_10 rfl rfl (fun w hs => toCircuit_spec (hs.sl chGates) (by omega)) ?_)
                rintro _ _ ⟨u43, rfl, rfl⟩
                refine ⟨(Some'.weak (.skip (.skip (.skip (.take (.take (.take (.take (.take (.take (.take (.take (.take (.take (.take (.take (.take (.take (.take (.take (.nil _))))))))))))))))))))), ?_⟩
                refine DW.step (i := 5) (by kernel_rfl) rfl rfl (OpStep.call (vs := [.slice pA pn pc]) (caps := []) Tcall_11 rfl rfl (fun w hs => toIntS_spec (hs.sl ph) (by omega)) ?_)
                rintro u44 _ rfl
                refine ⟨(Some'.weak (.skip (.skip (.skip (.skip (.take (.take (.take (.take (.take (.take (.take (.take (.take (.take (.take (.take (.take (.take (.take (.take (.nil _)))))))))))))))))))))), ?_⟩
                refine DW.step (i := 6) (by kernel_rfl) rfl rfl (OpStep.call (vs := [.agg #[.int .i64 gNodes, u42], .agg #[.int .i64 cQubits, u43], u44]) (caps := []) Tcall_17 rfl rfl (fun w hs => (by have h := RouteFrom_spec (M := M) (N := gNodes) (Q := cQubits) hM (hs.slOwn (.tail _ (.tail _ (List.Mem.head _)))) (hs.slOwn (.tail _ (List.Mem.head _))) (hs.slOwn (.head _)); rw [hpl, htl, hok] at h; exact h)) ?_)
                rintro _ _ ⟨u45, u46, rfl, rfl⟩
                refine ⟨(Some'.weak (.skip (.skip (.skip (.skip (.skip (.skip (.take (.take (.take (.take (.take (.take (.take (.take (.take (.take (.take (.take (.take (.take (.take (.take (.nil _)))))))))))))))))))))))), ?_⟩
                refine DW.take (i := 7) (v := .tuple #[.agg #[u45, u46], .bool ok]) rfl (by kernel_rfl) (by kernel_rfl) (by kernel_rfl) (fun _ _ _ h => h) (Some'.weak (.skip (.skip (.skip (.skip (.skip (.skip (.take (.take (.take (.take (.take (.take (.take (.take (.take (.take (.take (.take (.take (.take (.take (.take (.nil _)))))))))))))))))))))))) rfl (OpY.pure rfl) ?_
                refine DW.take (i := 8) (v := .agg #[u45, u46]) rfl (by kernel_rfl) (by kernel_rfl) (by kernel_rfl) (fun _ _ _ h => h) (Some'.weak (.skip (.skip (.skip (.skip (.skip (.skip (.take (.take (.take (.take (.take (.take (.take (.take (.take (.take (.take (.take (.take (.take (.take (.take (.nil _)))))))))))))))))))))))) rfl (OpY.pure rfl) ?_
                refine DW.take (i := 9) (v := .bool ok) rfl (by kernel_rfl) (by kernel_rfl) (by kernel_rfl) (fun _ _ _ h => h) (Some'.weak (.skip (.skip (.skip (.skip (.skip (.skip (.take (.take (.take (.take (.take (.take (.take (.take (.take (.take (.take (.take (.take (.take (.take (.take (.nil _)))))))))))))))))))))))) rfl (OpY.pure rfl) ?_
                refine DW.formOwn (.head _) (fun A_u451 c_u451 hv hcapc_u451 hmaxc_u451 => ?_)
                subst hv
                refine DW.formOwn (.tail _ (List.Mem.head _)) (fun A_u461 c_u461 hv hcapc_u461 hmaxc_u461 => ?_)
                subst hv
                refine DW.step (i := 11) (by kernel_rfl) rfl rfl (OpStep.storeAll (us := [.slice A_u451 (pl.length) c_u451, .slice A_u461 (tl.length) c_u461]) Tsize_48 rfl rfl rfl (.there _ (.there _ (.there _ (.there _ (.there _ (.here _)))))) rfl ?_)
                refine ⟨(Some'.weak (.skip (.skip (.skip (.skip (.skip (.skip (.take (.take (.take (.take (.take (.take (.take (.take (.take (.take (.take (.take (.take (.take (.take (.take (.nil _)))))))))))))))))))))))), ?_⟩
                refine DW.take (i := 12) (v := .bool ok) rfl (by kernel_rfl) (by kernel_rfl) (by kernel_rfl) (fun _ _ _ h => h) (Some'.weak (.skip (.skip (.skip (.skip (.skip (.skip (.take (.take (.take (.take (.take (.take (.take (.take (.take (.take (.take (.take (.take (.take (.take (.take (.nil _)))))))))))))))))))))))) rfl (OpY.pure rfl) ?_
                refine DW.done (by kernel_rfl) ?_
                refine Run.seq ?_
                refine Run.seq ?_
                refine Run.region ?_
                refine Run.q (v := .agg #[.slice A_u451 (pl.length) c_u451, .slice A_u461 (tl.length) c_u461]) rfl (OpQ.y (OpY.loadN (cs := [.slice A_u451 (pl.length) c_u451, .slice A_u461 (tl.length) c_u461]) Tagg_48 rfl (Cells.blk (.tail _ (.tail _ (.tail _ (.tail _ (.tail _ (List.Mem.head _)))))) ⟨rfl, rfl, trivial⟩))) ?_
                refine Run.q (v := .agg #[x, y]) rfl (OpQ.y (OpY.loadN (cs := [x, y]) Tagg_48 rfl (Cells.blk (.tail _ (.tail _ (.tail _ (.tail _ (.tail _ (.tail _ (.tail _ (.tail _ (.tail _ (.tail _ (.tail _ (.tail _ (.tail _ (.tail _ (.tail _ (.tail _ (.tail _ (List.Mem.head _)))))))))))))))))) ⟨rfl, rfl, trivial⟩))) ?_
                refine Run.q (v := .bool true) rfl (OpQ.call (vs := [.agg #[.slice A_u451 (pl.length) c_u451, .slice A_u461 (tl.length) c_u461], .agg #[x, y]]) (caps := []) Tcall_18 rfl rfl (fun w hs => eqRoute_true (hs.slOwn (.head _)) (hs.slOwn (.tail _ (List.Mem.head _))) (hs.slOwn (.tail _ (.tail _ (.tail _ (.tail _ (.tail _ (.tail _ (.tail _ (.tail _ (.tail _ (.tail _ (.tail _ (.tail _ (.tail _ (.tail _ (.tail _ (.tail _ (.tail _ (.tail _ (List.Mem.head _)))))))))))))))))))) (hs.slOwn (.tail _ (.tail _ (.tail _ (.tail _ (.tail _ (.tail _ (.tail _ (.tail _ (.tail _ (.tail _ (.tail _ (.tail _ (.tail _ (.tail _ (.tail _ (.tail _ (.tail _ (.tail _ (.tail _ (List.Mem.head _))))))))))))))))))))))) ?_
                refine Run.q (v := .bool false) rfl (OpQ.y (OpY.pure rfl)) ?_
                refine Run.q (v := .bool false) rfl (OpQ.y (OpY.pure rfl)) ?_
                refine Run.q (v := .bool ok) rfl (OpQ.y (OpY.pure rfl)) ?_
                refine Run.q (v := .bool ok) rfl (OpQ.y (OpY.pure rfl)) ?_
                refine Run.q (v := .bool false) rfl (OpQ.y (OpY.neqBSame Tbool_4 rfl rfl rfl)) ?_
                refine Run.q (v := .bool false) rfl (OpQ.y (OpY.pure rfl)) ?_
                refine Run.done ?_
                refine Run.cond (b := false) rfl (fun h => nomatch h) (fun _ => ?_)
                refine Run.skip ?_
                refine Run.seq ?_
                refine Run.region ?_
                refine Run.q (v := .int .i64 1) rfl (OpQ.y (OpY.pure rfl)) ?_
                refine Run.done ?_
                refine Run.seq ?_
                refine Run.region ?_
                refine Run.q (v := .agg #[.slice A_u231 (pl.length) c_u231, .slice A_u241 (tl.length) c_u241]) rfl (OpQ.y (OpY.loadN (cs := [.slice A_u231 (pl.length) c_u231, .slice A_u241 (tl.length) c_u241]) Tagg_48 rfl (Cells.blk (.tail _ (.tail _ (.tail _ (.tail _ (.tail _ (.tail _ (.tail _ (.tail _ (.tail _ (.tail _ (.tail _ (.tail _ (.tail _ (.tail _ (List.Mem.head _))))))))))))))) ⟨rfl, rfl, trivial⟩))) ?_
                refine Run.q (v := .int .i64 1) rfl (OpQ.y (OpY.pure rfl)) ?_
                refine Run.q (v := .int .i64 (1 + ((pl.length : Nat) : Int) * 1 + ((tl.length : Nat) : Int) * 3)) rfl (OpQ.call (vs := [.agg #[.slice A_u231 (pl.length) c_u231, .slice A_u241 (tl.length) c_u241], .int .i64 1]) (caps := []) Tcall_23 rfl rfl (fun w hs => heldRoute_true (hs.slOwn (.tail _ (.tail _ (.tail _ (.tail _ (.tail _ (.tail _ (.tail _ (List.Mem.head _))))))))) (hs.slOwn (.tail _ (.tail _ (.tail _ (.tail _ (.tail _ (.tail _ (List.Mem.head _)))))))) (by omega) (by omega) rfl rfl)) ?_
                refine Run.q (v := .int .i64 (1 + ((pl.length : Nat) : Int) * 1 + ((tl.length : Nat) : Int) * 3)) rfl (OpQ.y (OpY.pure rfl)) ?_
                refine Run.done ?_
                refine Run.seq ?_
                refine Run.seq ?_
                refine Run.region ?_
                refine Run.q (v := .int .i64 (1 + ((pl.length : Nat) : Int) * 1 + ((tl.length : Nat) : Int) * 3)) rfl (OpQ.y (OpY.pure rfl)) ?_
                refine Run.q (v := .bool (decide ((1 + ((pl.length : Nat) : Int) * 1 + ((tl.length : Nat) : Int) * 3) < 0))) rfl (OpQ.y (OpY.pure rfl)) ?_
                refine Run.done ?_
                refine Run.cond (b := decide ((1 + ((pl.length : Nat) : Int) * 1 + ((tl.length : Nat) : Int) * 3) < 0)) rfl (fun h136 => ?_) (fun h136 => ?_)
                · have p136 := h136; try simp only [bs] at p136
                  exact absurd h136 (by simp <;> omega) --DONE
                · have p136 := h136; try simp only [bs] at p136
                  refine Run.skip ?_
                  refine Run.seq ?_
                  refine Run.seq ?_
                  refine Run.region ?_
                  refine Run.q (v := .int .i64 (1 + ((pl.length : Nat) : Int) * 1 + ((tl.length : Nat) : Int) * 3)) rfl (OpQ.y (OpY.pure rfl)) ?_
                  refine Run.q (v := .int .i64 (1 + ((pl.length : Nat) : Int) * 1 + ((tl.length : Nat) : Int) * 3)) rfl (OpQ.y (OpY.pure rfl)) ?_
                  refine Run.q (v := .bool false) rfl (OpQ.y (OpY.neqSame rfl rfl rfl)) ?_
                  refine Run.done ?_
                  refine Run.cond (b := false) rfl (fun h => nomatch h) (fun _ => ?_)
                  refine Run.skip ?_
                  refine Run.seq ?_
                  refine Run.region ?_
                  refine Run.q (v := .bool true) rfl (OpQ.y (OpY.pure rfl)) ?_
                  refine Run.done ?_
                  refine Run.ret ?_
                  refine ⟨.bool true, [], Out.one rfl rfl, (Some'.weak (.nil _)), ?_⟩
                  rfl

end Go.Proofs.Ytekikmdjldincaa
